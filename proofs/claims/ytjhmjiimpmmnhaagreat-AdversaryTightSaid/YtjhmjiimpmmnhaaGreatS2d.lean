/- Lemmas of this seat. Conditions: as stated. -/
import Derived.Test.YtjhmjiimpmmnhaaGreatS1
set_option linter.unusedVariables false
set_option linter.unusedSimpArgs false
set_option maxHeartbeats 2000000
set_option maxRecDepth 4000
namespace Go.Proofs.YtjhmjiimpmmnhaaGreat
open Go.Sx Go.Pk Go.Mc
structure QtP (q:List Int) (N:Nat):Prop where
 l:q.length=N
 w:∀c,c<N→1≤q.getD c 0∧q.getD c 0≤6000
structure DfP (N:Nat) (s:Df):Prop where
 c:s.c<N
 d:∀c,0≤s.d c∧s.d c≤7500
 o:∀c,(c≠s.c∨s.b=false)→s.d c≤1500
theorem DfP.q {N:Nat} {q:Nat→Int} (hq:∀c,c<N→1≤q c∧q c≤6000) {s:Df} (h:DfP N s):(∀c,0≤dq q s c∧dq q s c≤7500)∧(∀c,c≠s.c→dq q s c=s.d c):=by
 unfold dq
 split
 ·exact⟨h.d,fun _ _=>rfl⟩
 ·rename_i hb
  have hb:s.b=false:=by simpa using hb
  refine⟨fun c=>?_,fun c hc=>upd_ne hc⟩
  by_cases e:c=s.c
  ·subst e;rw [upd_same];have:=h.d s.c;have:=hq _ h.c;have:=h.o s.c (.inr hb);omega
  ·rw [upd_ne e];exact h.d c
theorem DfP.n {N:Nat} {q:Nat→Int} (hN:1≤N) (hq:∀c,c<N→1≤q c∧q c≤6000) {s:Df} (h:DfP N s) (hz:dq q s s.c≤1500):DfP N ⟨(s.c+1)%N,false,dq q s⟩:=by
 obtain⟨h1,h3⟩:=h.q hq
 refine⟨Nat.mod_lt _ hN,h1,fun c _=>?_⟩
 dsimp only
 by_cases e:c=s.c
 ·subst e;exact hz
 ·rw [h3 c e];exact h.o c (.inl e)
theorem DfP.e {N:Nat} (hN:1≤N) {s:Df} (h:DfP N s):DfP N ⟨(s.c+1)%N,false,upd s.d s.c 0⟩:=by
 refine⟨Nat.mod_lt _ hN,fun c=>?_,fun c _=>?_⟩
 ·dsimp only
  by_cases e:c=s.c
  ·subst e;rw [upd_same];omega
  ·rw [upd_ne e];exact h.d c
 ·dsimp only
  by_cases e:c=s.c
  ·subst e;rw [upd_same];omega
  ·rw [upd_ne e];exact h.o c (.inl e)
theorem DfP.t {N:Nat} {q:Nat→Int} (hq:∀c,c<N→1≤q c∧q c≤6000) {s:Df} (h:DfP N s) {z:Int} (h0:0≤z) (hz:z≤dq q s s.c):DfP N ⟨s.c,true,upd (dq q s) s.c (dq q s s.c-z)⟩:=by
 obtain⟨h1,h3⟩:=h.q hq
 refine⟨h.c,fun c=>?_,fun c ho=>?_⟩
 ·dsimp only
  by_cases e:c=s.c
  ·subst e;rw [upd_same];have:=h1 s.c;omega
  ·rw [upd_ne e];exact h1 c
 ·dsimp only at ho⊢
  have e:c≠s.c:=by
   rcases ho with h|h
   ·exact h
   ·cases h
  rw [upd_ne e,h3 c e];exact h.o c (.inl e)
theorem dfc_st {f:Int→Option Nat} {z:Nat→Nat} {q:Nat→Int} {N:Nat} (hN:1≤N) (hq:∀c,c<N→1≤q c∧q c≤6000) (hz:∀c i,f c=some i→z i≤1500):∀{k:Nat} {s:Df},DfP N s→DfP N (dfc f z q N k s).1
 |0,s,h=>h
 |k+1,s,h=>by
  simp only [dfc]
  split
  ·rename_i i hi
   have:=hz _ _ hi
   split
   ·rename_i hle
    exact h.t hq (by omega) hle
   ·exact dfc_st hN hq hz (h.n hN hq (by omega))
  ·exact dfc_st hN hq hz (h.e hN)
theorem dfc_rch {q:List Int} {N:Nat} (hN:1≤N) (hq:QtP q N) {p:List Pk} (hp:PL p) {s:(defC q).σ} (h:Rch (defC q) p s):DfP N s:=by
 induction h with
 |z=>exact⟨hN,fun c=>⟨Int.le_refl _,by show(0:Int)≤7500;omega⟩,fun c _=>by show(0:Int)≤1500;omega⟩
 |@s t l w s _ ih=>
  show DfP N (Ch.ch (defC q) p t l w s).1
  simp only [defC]
  split
  ·exact ih
  ·split
   ·rw [hq.l]
    exact dfc_st hN (fun c hc=>hq.w c hc) (fun c i hi=>by have:=hp.s i (fc_some.1 hi).1;unfold sz;omega) ih
   ·exact ih
theorem z1_S2d {G H:Prop} (k:H) (h:H→G:=by first|exact fun r=>aS r|exact fun r=>aG r|exact fun r=>aD r|exact fun r=>aH r|exact fun r=>aP_R1 r|exact fun r=>aI r|exact fun r=>aJ r|exact fun r=>aW (.qs [0,1,2,3,4,5,6,7,8,9,10,11,12,13,14,15,16,17,18,19,20,21] (.l 22 [] .nil .no)) r|exact fun r=>aW (.qs [0,1,2,3,4,6,7,8,9,10,11,12,13,14,15] (.l 5 [15,13,9] (.qs [16,17] .nil) .no)) r|exact fun r=>aW (.qs [0,1,2,3,4,5,6,7,8,9,10,11] (.l 12 [9,7,3] (.qs [13,14] (.l 15 [] .nil .no)) .no)) r|exact fun r=>aW (.qs [0,1,2,3,4,5,6,7,8] (.l 9 [] .nil .no)) r|exact fun r=>aW (.qs [0,1,2,3,4,5,6,7,8,9,10,11,12,13,14] (.l 15 [] (.qs [16,17] (.l 18 [] .nil .no)) .no)) r):G:=h k
theorem ChoD_ok (p:List Pk) (hp:PL p) (q:List Int) (N:Nat) (hN:1≤N) (hN2:N≤6) (hq:QtP q N) (hcl:∀i,i<p.length→0≤cl p i∧cl p i<N) (t left:Nat) (bg:Nat→Bool) (s:(defC q).σ) (hs:Rch (defC q) p s) (bef:Nat) (hB:Bf p bg bef):
  Ctr Tryz.prog 270 [.ptr 2 0, .ptr 0 0] [stB t left p bef, .vec 1 (bls p.length bg), .box [.psl 1 (ints q), .vec 3,i64 (s:Df).c, .bl (s:Df).b], .vec 1 (ivs N (s:Df).d)]
   (fun r o=>∃b2,Bf p bg b2∧o=[stB t left p b2, .vec 1 (bls p.length bg), .box [.psl 1 (ints q), .vec 3,i64 (((defC q).ch p t left (wt p t bg) s).1 :Df).c, .bl (((defC q).ch p t left (wt p t bg) s).1 :Df).b], .vec 1 (ivs N (((defC q).ch p t left (wt p t bg) s).1 :Df).d)]∧r=i64 (oI ((defC q).ch p t left (wt p t bg) s).2)):=by
 refine fI 4 Tryz.func270 ?_
 have s1:=dfc_rch hN hq hp hs
 clear hs
 have hil:=ints_len q
 have hwl:=hq.l
 have hno:fst (wt p t bg) p.length=none→(defC q).ch p t left (wt p t bg) s=(s,none):=fun h=>if_pos h
 have hyes:fst (wt p t bg) p.length≠none→(dfc (fc p (wt p t bg)) (sz p) (fun c=>q.getD c 0) N (fuelD N 1500) s).2 ≠none∧(defC q).ch p t left (wt p t bg) s=dfc (fc p (wt p t bg)) (sz p) (fun c=>q.getD c 0) N (fuelD N 1500) s:=fun h=>by
  have h1:(dfc (fc p (wt p t bg)) (sz p) (fun c=>q.getD c 0) N (fuelD N 1500) s).2 ≠none:=by
   cases hf:fst (wt p t bg) p.length with
   |none=>exact absurd hf h
   |some i=>
    obtain⟨f1,f2,f3⟩:=fst_some.1 hf
    obtain⟨c1,c2⟩:=hcl i f1
    cases hfc:fc p (wt p t bg) (cl p i)with
    |none=>
     have:=fc_none.1 hfc i f1 rfl
     rw [f2]at this;cases this
    |some j=>
     refine dfc_ends hN (fun c hc=>(hq.w c hc).1) (cs:=(cl p i).toNat) (by omega) (i:=j) (by rw [Int.toNat_of_nonneg c1];exact hfc) ?_ s1.c ?_
     ·have:=hp.s j (fc_some.1 hfc).1;unfold sz;omega
     ·exact fun c=>(s1.d c).1
  refine⟨h1,?_⟩
  refine(if_neg h).trans ?_
  rw [hq.l]
  cases hr:(dfc (fc p (wt p t bg)) (sz p) (fun c=>q.getD c 0) N (fuelD N 1500) s).2 with
  |none=>exact absurd hr h1
  |some i=>exact Prod.ext rfl hr.symm
 generalize (defC q).ch p t left (wt p t bg) s=W at*
 obtain⟨w1,w2⟩:=W
 generalize fuelD N 1500=K at*
 obtain⟨c0,b0,d0⟩:=s
 dsimp only at*
 (repeat' (conv=>whnf);first|refine aC ?_ ?_<;>intro<;>try omega|refine z1_S2d ?_|fail);all_goals try (conv=>whnf)
 refine aM [0,1] (First_ok p hp t left bg bef hB) rfl rfl ?_
 rintro _ _ ⟨b2,hB2,rfl,rfl⟩
 cases hf:fst (wt p t bg) p.length with
 |none=>
  have hon:oI none= -1:=rfl
  have e:=hno hf
  cases e
  rw [hon]
  (repeat' (conv=>whnf);first|refine aC ?_ ?_<;>intro<;>try omega|refine z1_S2d ?_|fail);all_goals try (conv=>whnf)
  exact⟨b2,hB2,rfl,rfl⟩
 |some i0=>
  obtain⟨hne,e⟩:=hyes (by rw [hf];simp)
  have ho2:oI (some i0)=i0:=rfl
  rw [ho2]
  clear hyes hno hf
  (repeat' (conv=>whnf);first|refine aC ?_ ?_<;>intro<;>try omega|refine z1_S2d ?_|fail);all_goals try (conv=>whnf)
  refine LoopOb.mk (Y:=Nat×Nat×Df) (st:=fun y=>⟨[(0, .ptr 2 0),(1, .ptr 0 0)],[stB t left p y.1, .vec 1 (bls p.length bg), .box [.psl 1 (ints q), .vec 3,i64 y.2.2.c, .bl y.2.2.b], .vec 1 (ivs N y.2.2.d)]⟩)
   (inv:=fun y=>Bf p bg y.1∧DfP N y.2.2∧dfc (fc p (wt p t bg)) (sz p) (fun c=>q.getD c 0) N y.2.1 y.2.2=dfc (fc p (wt p t bg)) (sz p) (fun c=>q.getD c 0) N K ⟨c0,b0,d0⟩) (fun y=>y.2.1) (b2,K,⟨c0,b0,d0⟩) [0,1,2,3] ⟨hB2,s1,rfl⟩ (by(exact aL)) ?_
  generalize dfc (fc p (wt p t bg)) (sz p) (fun c=>q.getD c 0) N K ⟨c0,b0,d0⟩=W at*
  clear hB hB2 s1
  clear bef b2 c0 b0 d0
  rintro⟨b,k,s⟩ ⟨hb,h1,hr⟩
  dsimp only at hb h1 hr⊢
  obtain⟨k,rfl⟩:∃k',k=k'+1:=by
   cases k with
   |zero=>rw [←hr]at hne;exact absurd rfl hne
   |succ k=>exact⟨k,rfl⟩
  rw [dfc]at hr
  have hq1:=h1.q (q:=fun c=>q.getD c 0) (fun c hc=>hq.w c hc)
  have hn:=fun hz=>h1.n (q:=fun c=>q.getD c 0) hN (fun c hc=>hq.w c hc) hz
  have he:=h1.e hN
  have hgq:=ints_get (l:=q) (j:=s.c) (by have:=h1.c;omega)
  have hgd:=ivs_get (f:=s.d) h1.c
  have hgd3:((ivs N s.d).set s.c [i64 (s.d s.c+q.getD s.c 0)])[s.c]? =some [i64 (s.d s.c+q.getD s.c 0)]:=by rw [ivs_set,ivs_get h1.c,upd_same]
  have hdl3:((ivs N s.d).set s.c [i64 (s.d s.c+q.getD s.c 0)]).length =N:=by rw [ivs_set];exact ivs_len _ _
  have hdl:=ivs_len N s.d
  have hqw:=hq.w s.c h1.c
  have hdw:=h1.d s.c
  have hc1:=h1.c
  have hdq:=hq1.1 s.c
  have hdqt:s.b=true→dq (fun c=>q.getD c 0) s=s.d:=fun h=>by unfold dq;rw [if_pos h]
  have hdqf:s.b=false→dq (fun c=>q.getD c 0) s=upd s.d s.c (s.d s.c+q.getD s.c 0):=fun h=>by unfold dq;rw [if_neg (by rw [h];simp)]
  have etm:((s.c:Int)+1).tmod (ints q).length =((s.c+1)%N:Nat):=by rw [hil,hwl,Int.tmod_eq_emod_of_nonneg (by omega)];rfl
  (repeat' (conv=>whnf);first|refine aC ?_ ?_<;>intro<;>try omega|refine z1_S2d ?_|fail);all_goals try (conv=>whnf)
  refine aM [0,1] (Next_ok p hp t left s.c bg b hb) rfl rfl ?_
  rintro _ _ ⟨b2,hB2,rfl,rfl⟩
  cases hf:fc p (wt p t bg) s.c with
  |none=>
   have ho3:oI none= -1:=rfl
   rw [hf]at hr
   dsimp only at hr
   rw [ho3]
   (repeat' (conv=>whnf);first|refine aC ?_ ?_<;>intro<;>try omega|refine z1_S2d ?_|refine⟨s.c,rfl,by omega,?_⟩|refine⟨_,hgd,?_⟩|refine And.intro (by omega) ?_|fail);all_goals try (conv=>whnf)
   exact⟨(b2,k,⟨(s.c+1)%N,false,upd s.d s.c 0⟩),[0,1,2,3],⟨hB2,he,hr⟩,by dsimp only;omega,by rw [etm,ivs_set];(exact aL)⟩
  |some i=>
   have ho3:oI (some i)=i:=rfl
   rw [hf]at hr
   dsimp only at hr
   rw [ho3]
   have hip:=(fc_some.1 hf).1
   have hzz:=hp.s i hip
   have hz2:(sz p i:Int)=(p.getD i pk0).s :=by unfold sz;omega
   cases hbb:s.b with
   |true=>
    rw [hdqt hbb]at hr hn hdq
    by_cases hz:(sz p i:Int)≤s.d s.c
    ·rw [if_pos hz]at hr
     (repeat' (conv=>whnf);first|refine aC ?_ ?_<;>intro<;>try omega|refine z1_S2d ?_|(refine aK [0,1] (Size_ok p hp t left bg b2 i hip) ?_)|refine⟨s.c,rfl,by omega,?_⟩|refine⟨_,hgd,?_⟩|fail);all_goals try (conv=>whnf)
     rw [←hr]at e
     cases e
     exact⟨b2,hB2,by rw [ivs_set],rfl⟩
    ·rw [if_neg hz]at hr
     have hn:=hn (by omega)
     (repeat' (conv=>whnf);first|refine aC ?_ ?_<;>intro<;>try omega|refine z1_S2d ?_|(refine aK [0,1] (Size_ok p hp t left bg b2 i hip) ?_)|refine⟨s.c,rfl,by omega,?_⟩|refine⟨_,hgd,?_⟩|refine And.intro (by omega) ?_|fail);all_goals try (conv=>whnf)
     exact⟨(b2,k,⟨(s.c+1)%N,false,s.d⟩),[0,1,2,3],⟨hB2,hn,hr⟩,by dsimp only;omega,by rw [etm];(exact aL)⟩
   |false=>
    rw [hdqf hbb]at hr hn hdq
    rw [upd_same]at hr hn hdq
    by_cases hz:(sz p i:Int)≤s.d s.c+q.getD s.c 0
    ·rw [if_pos hz]at hr
     (repeat' (conv=>whnf);first|refine aC ?_ ?_<;>intro<;>try omega|refine z1_S2d ?_|(refine aK [0,1] (Size_ok p hp t left bg b2 i hip) ?_)|refine⟨s.c,rfl,by omega,?_⟩|refine⟨_,hgd,?_⟩|refine⟨s.c,_,rfl,hgq,?_⟩|refine⟨s.c,rfl,by rw [List.length_set];omega,?_⟩|refine⟨_,hgd3,?_⟩|fail);all_goals try (conv=>whnf)
     rw [←hr]at e
     cases e
     exact⟨b2,hB2,by rw [ivs_set,ivs_set],rfl⟩
    ·rw [if_neg hz]at hr
     have hn:=hn (by omega)
     (repeat' (conv=>whnf);first|refine aC ?_ ?_<;>intro<;>try omega|refine z1_S2d ?_|(refine aK [0,1] (Size_ok p hp t left bg b2 i hip) ?_)|refine⟨s.c,rfl,by omega,?_⟩|refine⟨_,hgd,?_⟩|refine And.intro (by omega) ?_|refine⟨s.c,_,rfl,hgq,?_⟩|refine⟨s.c,rfl,by rw [List.length_set];omega,?_⟩|refine⟨_,hgd3,?_⟩|fail);all_goals try (conv=>whnf)
     exact⟨(b2,k,⟨(s.c+1)%N,false,upd s.d s.c (s.d s.c+q.getD s.c 0)⟩),[0,1,2,3],⟨hB2,hn,hr⟩,by dsimp only;omega,by rw [etm,ivs_set];(exact aL)⟩
end Go.Proofs.YtjhmjiimpmmnhaaGreat
