/- Lemmas of this seat. Conditions: as stated. -/
import Derived.Test.YtjhmjiimpmmnhaaGreatGf
import Derived.Test.YtjhmjiimpmmnhaaGreatY9
import Derived.Test.YtjhmjiimpmmnhaaGreatR6
set_option linter.unusedVariables false
set_option linter.unusedSimpArgs false
set_option maxHeartbeats 2000000
set_option maxRecDepth 4000
namespace Go.Proofs.YtjhmjiimpmmnhaaGreat
section
open Go.Sx Go.Cv Go.Gd Go.Np Go.Pk Go.St Go.Mc Go.Tp
theorem tTotal_ok (B:Int) (hB:1≤B∧B≤1073741824):Ctr Tryz.prog 143 [.psl 3 ([([0,B],1,0)].map cvw)] [] (fun r o=>o=[]∧r= .tup [crv [0,B] 1 0,i64 0]):=by
 refine fI 0 Tryz.func143 ?_
 have v0:=line_vf (c:=0) (by decide) (by decide)
 have v1:=bur_vf hB.1 hB.2
 have f0:FinC ([0],1,0):=by show([0]:List Int).getD 0 0≠INF;decide
 have f1:FinC ([0,B],1,0):=by show([0,B]:List Int).getD 1 0≠INF;simp only [List.getD_cons_succ,List.getD_cons_zero,INF];omega
 have cS:=(rSumX_ok ([0],1,0) ([0,B],1,0) v0 v1 f0 f1).mono fun r o h=>(by obtain⟨x,h1,h2,h3⟩:=h;cases h1.uniq (bur_sum hB);exact⟨h2,h3⟩:o=[]∧r=crvE ([0,B],1,0,0))
 have hg0:(([([0,B],1,0)]:List C3).map cvw)[0]? =some (cvw ([0,B],1,0)):=rfl
 have hil:(([([0,B],1,0)]:List C3).map cvw).length =1:=rfl
 (repeat' (conv=>whnf);first|refine aC ?_ ?_<;>intro<;>try omega|refine z1_R1 ?_|(refine aK [] (tFlat0) ?_)|fail);all_goals try (conv=>whnf)
 refine LoopOb.mk (Y:=Nat) (st:=fun i=>⟨[(6,i64 i),(4, .ptr 1 0),(2, .ptr 0 0),(0, .psl 3 (([([0,B],1,0)]:List C3).map cvw))],[.box [.nil,i64 0,i64 0], .box [.psl 1 (ints (if i=0 then [0]else [0,B])),i64 1,i64 0]]⟩)
  (inv:=fun i=>i≤1) (fun i=>1-i) 0 [0,1] (by omega) (by(exact aL)) ?_
 rintro i hi
 rcases(show i=0∨i=1 by omega)with rfl|rfl
 ·rw [if_pos rfl]
  (repeat' (conv=>whnf);first|refine⟨0,_,rfl,hg0,?_⟩|refine DrawOb.mk [] (.qs [0,1,2,3,4] (.l 5 [] (.qs [6,7,8] (.l 9 [] (.l 10 [] (.qs [11] .nil) .no) .no)) (.l 9 [4,0] (.l 5 [] (.qs [6,7,8] (.l 10 [] (.qs [11] .nil) .no)) .no) .no))) (by decide+kernel) ?_|refine aC ?_ ?_<;>intro<;>try omega|refine z1_R1 ?_|(refine aK [] cS ?_)|refine And.intro ?_ ?_|fail);all_goals try (conv=>whnf)
  all_goals first
   |exact⟨1,[0,1],by omega,by omega,by rw [if_neg (by decide)];(exact aL)⟩
   |exact absurd rfl (by assumption)
   |trace_state
 ·rw [if_neg (by decide)]
  (repeat' (conv=>whnf);first|refine aC ?_ ?_<;>intro<;>try omega|refine z1_R1 ?_|fail);all_goals try (conv=>whnf)
  exact⟨rfl,rfl⟩
end
section
open Go.Sx Go.Cv Go.Gd Go.Np Go.Pk Go.St Go.Mc Go.Tp
theorem normP_eq {vs:List Int} {p:Nat} {q:Int} {F:Nat→Int} {vs':List Int} {p' q' e:Int} (v:VC (vs,p,q)) (hF:cv (vs,p,q)=F) (nf:NF F vs p q) (h:NormP vs p q vs' p' q' e):vs'=vs∧p'=p∧q'=q∧e=0:=by
 rcases h with⟨rfl,p0,p1,e0,rfl,_,h2⟩|⟨h,_⟩
 ·have e1:p0=p:=by omega
  subst e1
  have h3:NF F vs' p1 q':=by have:val vs p0 q=F:=hF;rw [←this];exact h2
  obtain⟨a,b,c⟩:=h3.uniq nf
  exact⟨a,by rw [b],c,rfl⟩
 ·exact absurd v.valid h
theorem tPair_ok (B c:Int) (hB:1≤B∧B≤1073741824) (hc:1≤c∧c≤4000):Ctr Tryz.prog 150 [crv [0,B] 1 0,crv [0] 1 c] [] (fun r o=>o=[]∧r= .tup [crv [0,B] 1 0,crv [0] 1 c,i64 1,i64 0]):=by
 have v0:=line_vf (c:=c) (by omega) (by omega)
 have v1:=bur_vf hB.1 hB.2
 refine(Pair_ok [0,B] 1 0 [0] 1 c).mono ?_
 rintro r o ⟨⟨A,C,l,e⟩,⟨ea,eb,hA,hC,h⟩,rfl,rfl⟩
 obtain⟨a1,a2,a3,rfl⟩:=normP_eq (p:=1) v1 (funext fun t=>bur_cv hB.1 hB.2 t) (nf_bur hB.1) hA
 obtain⟨b1,b2,b3,rfl⟩:=normP_eq (p:=1) v0 (funext fun t=>line_cv (by omega) (by omega) t) nf_line hC
 simp only at a1 a2 a3 b1 b2 b3 h
 rcases h with⟨h,_⟩|⟨_,_,h|h⟩
 ·omega
 ·obtain⟨h,_⟩:=h;rw [a2,b2]at h;exact absurd h (by decide)
 ·obtain⟨_,h1,h2⟩:=h
  refine⟨rfl,?_⟩
  show SV.tup [crv A.1 A.2.1 A.2.2,crv C.1 C.2.1 C.2.2,i64 l,i64 e]=_
  rw [a1,a2,a3,b1,b2,b3,h1,h2,a2,b2];rfl
theorem tGrows_ok (B c:Int) (hB:1≤B∧B≤1073741824) (hc:1≤c∧c≤4000):Ctr Tryz.prog 151 [crv [0,B] 1 0,crv [0] 1 c,i64 1] [] (fun r o=>o=[]∧r= .bl false):=by
 refine Ctr.imp ?_
 refine fI 0 Tryz.func151 ?_
 have cS:Ctr Tryz.prog 197 [crv [0,B] 1 0,crv [0] 1 c,i64 1] [] (fun r o=>o=[]∧r=i64 (0-c)):=by
  have:=Slopes_ok [0,B] [0] 1 1 1 0 c (by omega) (by omega) (by omega) (by omega) (by omega) (by omega) (by omega)
  refine this.mono ?_
  rintro r o ⟨h1,h2⟩
  exact⟨h1,by rw [h2];simp⟩
 (repeat' (conv=>whnf);first|refine aC ?_ ?_<;>intro<;>try omega|refine z1_R1 ?_|(refine aK [] (cS) ?_)|fail);all_goals try (conv=>whnf)
 exact⟨rfl,Imp.bpl ⟨fun h=>by omega,fun h=>by cases h⟩⟩
theorem tWindow_ok (B c:Int):Ctr Tryz.prog 152 [crv [0,B] 1 0,crv [0] 1 c,i64 1] [] (fun r o=>o=[]∧r=i64 3):=by
 refine fI 0 Tryz.func152 ?_
 have hl1:(ints [0,B]).length =2:=rfl
 have hl2:(ints [0]).length =1:=rfl
 (repeat' (conv=>whnf);first|refine aC ?_ ?_<;>intro<;>try omega|refine z1_R1 ?_|refine ArOb.fits (by rw [hl1,hl2];decide) ?_|fail);all_goals try (conv=>whnf)
 all_goals exact⟨rfl,by rw [hl1,hl2];rfl⟩
def tdv (B c:Int) (t:Nat):Int×Int:=if t≤1 then(0,0)else((B-1)/c,if 0<(B-1)/c then 1 else 0)
theorem z2_J17 {G H:Prop} (k:H) (h:H→G:=by first|exact fun r=>aS r|exact fun r=>aG r|exact fun r=>aD r|exact fun r=>aH r|exact fun r=>aP_R1 r|exact fun r=>aI r|exact fun r=>aJ r|exact fun r=>aW (.qs [0,1,2] (.l 3 [0] (.l 4 [] (.qs [5,6,7,8,9] .nil) .no) .no)) r):G:=h k
theorem tDelay_ok (B c : Int) (hB : 1 ≤ B ∧ B ≤ 1000000) (hc : 1 ≤ c ∧ c ≤ 4000) : Ctr Tryz.prog 119 [crv [0, B] 1 0, crv [0] 1 c] [] (fun r o => o = [] ∧ r = .tup [.agg [.bl false, i64 (tdv B c 2).1, i64 (tdv B c 2).2], i64 0]) := by
  refine fI 0 Tryz.func119 ?_
  have v0 : VC ([0], 1, c) := line_vf (c := c) (by omega) (by omega)
  have v1 : VC ([0, B], 1, 0) := bur_vf hB.1 (by omega)
  have f0 : FinC ([0], 1, c) := by show ([0] : List Int).getD 0 0 ≠ INF; decide
  have f1 : FinC ([0, B], 1, 0) := by show ([0, B] : List Int).getD 1 0 ≠ INF; simp only [List.getD_cons_succ, List.getD_cons_zero, INF]; omega
  have cP := tPair_ok B c ⟨hB.1, by omega⟩ hc
  have hq := (tdiv_bd (a := B - 1) (b := c) (by omega) hc.1).2
  have cA := fun t : Nat => fun h : t ≤ 1048576 => rAt_ok ([0, B], 1, 0) t v1 h
  have cF := RFinV_ok _ v1
  have cG := RFinV_ok _ v0
  have cS := tGrows_ok B c ⟨hB.1, by omega⟩ hc
  have cW := tWindow_ok B c
  (repeat' (conv => whnf); first | refine aC ?_ ?_ <;> intro <;> try omega | refine z2_J17 ?_ | (refine aK [] (cP) ?_) | (refine aK [] (cF) ?_) | (refine aK [] (cG) ?_) | (refine aK [] (cS) ?_) | (refine aK [] (cW) ?_) | fail); all_goals try (conv => whnf)
  all_goals first
    | exact absurd f0 (by assumption)
    | exact absurd f1 (by assumption)
    | (exfalso; omega)
    | skip
  refine LoopOb.mk (Y := Nat) (st := fun t => ⟨[(11, i64 t), (10, .ptr 2 0), (8, i64 1), (7, .ptr 1 0), (6, .ptr 0 0), (5, i64 0), (4, .ptr 3 0)], [.box [.psl 1 (ints [0, B]), i64 1, i64 0], .box [.psl 1 (ints [0]), i64 1, i64 c], .box [.bl false, i64 (tdv B c t).1, i64 (tdv B c t).2], .box [.bl false, i64 0, i64 0]]⟩)
    (inv := fun t => t ≤ 3) (fun t => 3 - t) 0 [3, 4, 5, 2] (by omega) (by (exact aL)) ?_
  rintro t ht
  have cA0 := cA t (by omega)
  rw [bur_cv hB.1 (by omega) t] at cA0
  have hbb : 0 ≤ burF B t ∧ burF B t ≤ 1000000 := by unfold burF; split <;> omega
  have cFi := tFirst_ok c (burF B t) hc hbb
  have hv : (if burF B t ≤ 0 then 0 else (burF B t - 1) / c + 1) = if t = 0 then 0 else (B - 1) / c + 1 := by
    unfold burF; by_cases h : t = 0
    · rw [if_pos h, if_pos h, if_pos (by omega)]
    · rw [if_neg h, if_neg h, if_neg (by omega)]
  rw [hv] at cFi
  have hx : 0 ≤ (if t = 0 then 0 else (B - 1) / c + 1) ∧ (if t = 0 then 0 else (B - 1) / c + 1) ≤ 1000000 := by split <;> omega
  have hst : tdv B c (t + 1) = if (tdv B c t).1 < (if t = 0 then 0 else (B - 1) / c + 1) - t then ((if t = 0 then 0 else (B - 1) / c + 1) - (t : Int), (t : Int)) else tdv B c t := by
    unfold tdv
    rcases (show t = 0 ∨ t = 1 ∨ 2 ≤ t by omega) with rfl | rfl | h
    · simp
    · simp only [Nat.le_refl, if_true, show ¬(1 + 1 ≤ 1) by omega, show ¬(1 = 0) by omega, if_false]
      by_cases h : 0 < (B - 1) / c
      · rw [if_pos h, if_pos (by omega)]; simp
      · rw [if_neg h, if_neg (by omega)]; rw [show (B - 1) / c = 0 by omega]
    · simp only [show ¬(t + 1 ≤ 1) by omega, show ¬(t ≤ 1) by omega, show ¬(t = 0) by omega, if_false]
      rw [if_neg (show ¬((B - 1) / c < (B - 1) / c + 1 - (t : Int)) by omega)]
  have hdb : 0 ≤ (tdv B c t).1 ∧ (tdv B c t).1 ≤ 1000000 := by unfold tdv; split <;> simp only <;> omega
  generalize (if t = 0 then 0 else (B - 1) / c + 1) = x at *
  generalize burF B t = b at *
  (repeat' (conv => whnf); first | refine aC ?_ ?_ <;> intro <;> try omega | refine z2_J17 ?_ | (refine aK [] (cA0) ?_) | (refine aK [] (cFi) ?_) | (refine aK [] (cW) ?_) | fail); all_goals try (conv => whnf)
  all_goals first
    | exact ⟨t + 1, [0, 1, 2, 3], by omega, by omega, by rw [hst, if_pos (by assumption)]; (exact aL)⟩
    | exact ⟨t + 1, [0, 1, 2, 3], by omega, by omega, by rw [hst, if_neg (by assumption)]; (exact aL)⟩
    | (obtain rfl : t = 3 := by omega
       exact ⟨rfl, rfl⟩)
    | trace_state
end
section
open Go.Sx Go.Cv Go.Gd Go.Np Go.Pk Go.St Go.Mc Go.Tp
theorem z1_J18 {G H:Prop} (k:H) (h:H→G:=by first|exact fun r=>aS r|exact fun r=>aG r|exact fun r=>aD r|exact fun r=>aH r|exact fun r=>aP_R1 r|exact fun r=>aI r|exact fun r=>aJ r|exact fun r=>aW (.qs [0,1,2,3,4,5,6,7,8,9,10,11,12,13,14,15,16,17,18,19,20,21,22,23,24,25,26] .nil) r):G:=h k
theorem tRight_ok (z:Int) (hz:1≤z∧z≤1500):Ctr Tryz.prog 141 [.psl 2 [[i64 1,i64 z]]] [] (fun r o=>o=[]∧r= .bl true):=by
 refine Ctr.imp ?_
 refine fI 0 Tryz.func141 ?_
 have hl:(([[i64 1,i64 z]]:List (List SV)).length :Int)=1:=rfl
 have hg:([[i64 1,i64 z]]:List (List SV))[0]? =some [i64 1,i64 z]:=rfl
 (repeat' (conv=>whnf);first|refine aC ?_ ?_<;>intro<;>try omega|refine z1_J18 ?_|fail);all_goals try (conv=>whnf)
 refine LoopOb.mk (Y:=Nat) (st:=fun t=>⟨[(3,i64 t),(2, .bl false),(0, .psl 2 [[i64 1,i64 z]])],[]⟩)
  (inv:=fun t=>t≤1) (fun t=>1-t) 0 [] (by omega) (by(exact aL)) ?_
 rintro t ht
 rcases(show t=0∨t=1 by omega)with rfl|rfl
 ·(repeat' (conv=>whnf);first|refine⟨0,_,rfl,hg,?_⟩|refine aC ?_ ?_<;>intro<;>try omega|refine z1_J18 ?_|fail);all_goals try (conv=>whnf)
  all_goals first
   |exact⟨1,[],by omega,by omega,by(exact aL)⟩
   |(exfalso;omega)
   |trace_state
 ·(repeat' (conv=>whnf);first|refine aC ?_ ?_<;>intro<;>try omega|refine z1_J18 ?_|fail);all_goals try (conv=>whnf)
  all_goals first
   |(exfalso;omega)
   |exact⟨rfl,Imp.refl _⟩
   |trace_state
theorem tValid_ok (a:C3) (ha:VC a):Ctr Tryz.prog 142 [.psl 3 [cvw a]] [] (fun r o=>o=[]∧r= .bl true):=by
 refine Ctr.imp ?_
 refine fI 0 Tryz.func142 ?_
 have hl:(([cvw a]:List (List SV)).length :Int)=1:=rfl
 have hg:([cvw a]:List (List SV))[0]? =some (cvw a):=rfl
 have cV:=RVal_ok a ha
 (repeat' (conv=>whnf);first|refine aC ?_ ?_<;>intro<;>try omega|refine z1_R1 ?_|fail);all_goals try (conv=>whnf)
 refine LoopOb.mk (Y:=Nat) (st:=fun t=>⟨[(3,i64 t),(2, .bl false),(0, .psl 3 [cvw a])],[]⟩)
  (inv:=fun t=>t≤1) (fun t=>1-t) 0 [] (by omega) (by(exact aL)) ?_
 rintro t ht
 rcases(show t=0∨t=1 by omega)with rfl|rfl
 ·(repeat' (conv=>whnf);first|refine⟨0,_,rfl,hg,?_⟩|refine aC ?_ ?_<;>intro<;>try omega|refine z1_R1 ?_|(refine aK [] (cV) ?_)|fail);all_goals try (conv=>whnf)
  all_goals first
   |exact⟨1,[],by omega,by omega,by(exact aL)⟩
   |(exfalso;omega)
   |trace_state
 ·(repeat' (conv=>whnf);first|refine aC ?_ ?_<;>intro<;>try omega|refine z1_R1 ?_|fail);all_goals try (conv=>whnf)
  all_goals first
   |(exfalso;omega)
   |exact⟨rfl,Imp.refl _⟩
   |trace_state
end
section
open Go.Sx Go.Cv Go.Gd Go.Np Go.Pk Go.St Go.Mc Go.Tp
theorem l1_ln (c:Int) (hc:1≤c∧c≤4000):lnErr (l1L c)=0:=by
 unfold lnErr
 rw [if_neg (show¬((1:Int)<1∨5<(1:Int))by decide),if_neg (show¬(c<1∨4000<c∨(1:Int)<1∨6<(1:Int))by omega)]
 unfold lsErr
 rw [if_neg (by rintro(⟨h,_⟩|⟨h,_⟩|⟨h,_⟩)<;>exact absurd h (show¬(1:Int)=_ by decide)),if_neg (by rintro(⟨_,_,h⟩|⟨_,h⟩)<;>exact h rfl)]
theorem tBad_ok (c z:Int) (a:C3) (hc:1≤c∧c≤4000) (hz:1≤z∧z≤1500) (ha:VC a):
  Ctr Tryz.prog 116 [lv (l1L c),i64 0, .psl 3 [cvw a], .psl 2 [[i64 1,i64 z]]] [] (fun r o=>o=[]∧r=i64 0):=by
 refine fI 0 Tryz.func116 ?_
 have cC:=rlCheck_ok (l1L c) ⟨Nat.zero_le _,Nat.zero_le _⟩
 rw [l1_ln c hc]at cC
 have cR:=tRight_ok z hz
 have cV:=tValid_ok a ha
 have hl:(([[i64 1,i64 z]]:List (List SV)).length :Int)=1:=rfl
 have hl2:(([cvw a]:List (List SV)).length :Int)=1:=rfl
 (repeat' (conv=>whnf);first|refine aC ?_ ?_<;>intro<;>try omega|refine z1_R1 ?_|(refine aK [] (cC) ?_)|(refine aK [] (cR) ?_)|(refine aK [] (cV) ?_)|fail);all_goals try (conv=>whnf)
 all_goals first
  |contradiction
  |(exfalso;omega)
  |exact⟨rfl,rfl⟩
  |trace_state
theorem tFifo_ok (c B:Int) (hc:1≤c∧c≤4000) (hB:1≤B∧B≤1000000):
  Ctr Tryz.prog 117 [lv (l1L c), .psl 3 [cvw ([0,B],1,0)]] [] (fun r o=>o=[]∧r= .tup [.agg [.bl false,i64 (tdv B c 2).1,i64 (tdv B c 2).2],i64 0]):=by
 refine fI 0 Tryz.func117 ?_
 have cT:=tTotal_ok B ⟨hB.1,by omega⟩
 have cS:=tServe_ok c hc
 have cD:=tDelay_ok B c hB hc
 (repeat' (conv=>whnf);first|refine aC ?_ ?_<;>intro<;>try omega|refine z1_R1 ?_|(refine aK [] (cT) ?_)|(refine aK [] (cS) ?_)|(refine aK [] (cD) ?_)|fail);all_goals try (conv=>whnf)
 all_goals first
  |contradiction
  |(exfalso;omega)
  |exact⟨rfl,rfl⟩
  |trace_state
theorem z2_J19 {G H:Prop} (k:H) (h:H→G:=by first|exact fun r=>aS r|exact fun r=>aG r|exact fun r=>aD r|exact fun r=>aH r|exact fun r=>aP_R1 r|exact fun r=>aI r|exact fun r=>aJ r|exact fun r=>aW (.qs [0,1,2,3,4] (.l 5 [] (.qs [6,7] (.l 8 [] (.qs [9] .nil) .no)) .no)) r):G:=h k
theorem tDelay22_ok (c z B:Int) (hc:1≤c∧c≤4000) (hz:1≤z∧z≤1500) (hB:1≤B∧B≤1000000):
  Ctr Tryz.prog 91 [lv (l1L c),i64 0, .psl 3 [cvw ([0,B],1,0)], .psl 2 [[i64 1,i64 z]]] [] (fun r o=>o=[]∧r= .tup [.agg [.bl false,i64 (tdv B c 2).1,i64 (tdv B c 2).2],i64 0]):=by
 refine fI 0 Tryz.func91 ?_
 have cB:=tBad_ok c z ([0,B],1,0) hc hz (bur_vf hB.1 (by omega))
 have cF:=tFifo_ok c B hc hB
 (repeat' (conv=>whnf);first|refine aC ?_ ?_<;>intro<;>try omega|refine z2_J19 ?_|(refine aK [] (cB) ?_)|(refine aK [] (cF) ?_)|fail);all_goals try (conv=>whnf)
 all_goals first
  |contradiction
  |(exfalso;omega)
  |exact⟨rfl,rfl⟩
  |trace_state
end
section
open Go.Sx Go.Cv Go.Gd Go.Np Go.Pk Go.St Go.Mc Go.Tp
abbrev tN (c z B:Int):Nt:=l1N c z [0,B] 1 0
structure TgH (c z B:Int):Prop where
 c:1≤c∧c≤4000
 z:1≤z∧z≤1500
 B:1≤B∧B≤1000000
theorem TgH.chk {c z B:Int} (h:TgH c z B):chkN (tN c z B)=0:=
 l1_chk h.c h.z (show VC ([0,B],1,0)from bur_vf h.B.1 (by have:=h.B.2;omega)).valid (by show([0,B]:List Int).getD 1 0≠INF;have:=h.B.2;simp only [List.getD_cons_succ,List.getD_cons_zero,INF];omega) rfl
theorem TgH.nl {c z B:Int}:NL (tN c z B):=by
 refine⟨show 1≤_ by decide,show 1≤_ by decide,show 1≤_ by decide,fun s hs=>?_,fun l hl=>?_,fun f hf=>?_⟩
 ·simp only [l1N,List.mem_cons,List.not_mem_nil,or_false]at hs
  subst hs;decide
 ·simp only [l1N,List.mem_cons,List.not_mem_nil,or_false]at hl
  subst hl;exact⟨Nat.zero_le _,Nat.zero_le _⟩
 ·simp only [l1N,List.mem_cons,List.not_mem_nil,or_false]at hf
  subst hf;exact⟨show 1≤_ by decide,show 1≤_ by decide,show 2≤_ by decide⟩
theorem tg_dl (x:Int):DL [[x]]:=by
 refine⟨show 1≤_ by decide,fun i=>?_⟩
 rcases i with _|i
 ·exact show 1≤_ by decide
 ·exact Nat.zero_le _
theorem TgH.sh {c z B:Int} (h:TgH c z B) {x:Int} (hx:0≤x∧x≤400):ShapeP (tN c z B) [[x]]:=by
 refine⟨h.chk,rfl,fun i hi=>?_,fun i hi j hj=>?_⟩
 ·have:i=0:=by simp only [List.length_cons,List.length_nil]at hi;omega
  subst this;rfl
 ·have:i=0:=by simp only [List.length_cons,List.length_nil]at hi;omega
  subst this
  have:j=0:=by simp only [List.getD_cons_zero,List.length_cons,List.length_nil]at hj;omega
  subst this
  show-1≤x∧x≤400
  omega
theorem TgH.con {c z B:Int} (h:TgH c z B):ConP (tN c z B) [[0]] 0 ([([0,B],1,0)],0):=by
 have hS:=h.sh (x:=0) (by omega)
 have hB:=h.B
 refine .inr (.inr ⟨hS,⟨by omega,by show(0:Int)<1;omega⟩,?_⟩)
 refine .go (b:=([0,B],1,0)) (by show 0<1;omega) ?_ (.stop _ rfl)
 refine .inr (.inr ⟨hS,⟨by omega,by show(0:Int)<1;omega,by show(0:Int)≤0;omega,by show(0:Int)<1;omega⟩,?_⟩)
 refine .go (x:=(([0,B],1,0),0)) (by show 0<1;omega) ⟨(([0,B],1,0),0),?_, .inr ⟨rfl,bur_sum ⟨hB.1,by omega⟩⟩⟩ rfl (.stop _)
 refine .inr (.inr ⟨hS,⟨by show(0:Int)≤0;omega,by show(0:Int)<1;omega,by show(0:Int)≤0;omega,by show(0:Int)<1;omega⟩, .inr ⟨0,rfl,?_⟩⟩)
 refine .inl ⟨[0,B],1,0,?_,bur_vf hB.1 (by omega),rfl⟩
 have:Cv.ahd (ctc ((tN c z B).fl.getD (0:Int).toNat fl0)) 0=burF B:=by
  funext t
  unfold Cv.ahd
  by_cases h:t=0
  ·rw [if_pos h];unfold burF;rw [if_pos h]
  ·rw [if_neg h];exact bur_cv hB.1 (by omega) t
 exact this▸nf_bur hB.1
theorem TgH.con_ok {c z B:Int} (h:TgH c z B):Ctr Tryz.prog 90 [ntv (tN c z B), .psl 1 (dls [[0]]),i64 0] [] (fun r o=>o=[]∧r= .tup [.psl 3 [cvw ([0,B],1,0)],i64 0]):=
 (rContractsX_ok (tN c z B) TgH.nl (show 1≤1000 by decide) [[0]] (tg_dl 0) 0).mono fun r o ⟨y,h1,h2,h3⟩=>by
  cases h1.uniq h.con
  exact⟨h2,h3⟩
theorem TgH.siz {c z B:Int} (h:TgH c z B):szR (tN c z B) 0=[[i64 1,i64 z]]:=by
 have e:szC (tN c z B) 0=1:=by
  unfold szC
  rw [if_neg (by rintro(k|k|k);exact k h.chk;omega;exact absurd k (show¬(1:Int)≤0 by decide))];rfl
 unfold szR
 rw [e];rfl
theorem TgH.siz_ok {c z B:Int} (h:TgH c z B):Ctr Tryz.prog 92 [ntv (tN c z B),i64 0] [] (fun r o=>o=[]∧r= .psl 2 [[i64 1,i64 z]]):=by
 have:=rSizes_ok (tN c z B) TgH.nl 0
 rwa [h.siz]at this
theorem TgH.mem_ok {c z B:Int}:Ctr Tryz.prog 89 [ntv (tN c z B),i64 0,i64 0] [] (fun r o=>o=[]∧r= .psl 1 (ints [0])):=
 rMembers_ok (tN c z B) TgH.nl (show 1≤1000 by decide) 0 0
end
section
open Go.Sx Go.Cv Go.Gd Go.Np Go.Pk Go.St Go.Mc Go.Tp
theorem tdv_v {c z B:Int} (h:TgH c z B):(tdv B c 2).1 =(B-1)/c∧0≤(B-1)/c∧(B-1)/c≤B-1:=by
 have:=h.B;have:=h.c
 exact⟨rfl,(tdiv_bd (a:=B-1) (b:=c) (by omega) (by omega)).2⟩
theorem TgH.del {c z B:Int} (h:TgH c z B) (hB:(B-1)/c≤400):Ctr Tryz.prog 61 [ntv (tN c z B), .psl 1 (dls [[0]]),i64 0,i64 0] [] (fun r o=>o=[]∧r= .tup [i64 ((B-1)/c),i64 0]):=by
 refine fI 0 Tryz.func61 ?_
 have hS:=h.sh (x:=0) (by omega)
 have cS:=rShape_ok (tN c z B) TgH.nl [[0]] (tg_dl 0)
 have cM:=TgH.mem_ok (c:=c) (z:=z) (B:=B)
 have cC:=h.con_ok
 have cZ:=h.siz_ok
 have cD:=tDelay22_ok c z B h.c h.z h.B
 have hg:(lns (tN c z B).ln)[0]? =some (lnv (l1L c)):=rfl
 have hll:((lns (tN c z B).ln).length :Int)=1:=rfl
 have hil:((ints [0]).length :Int)=1:=rfl
 have ht:=tdv_v h
 generalize hq:tdv B c 2=q at*
 obtain⟨q1,q2⟩:=q
 obtain⟨rfl,h2,h3⟩:=ht
 dsimp only at*
 (repeat' (conv=>whnf);first|refine DrawOb.mk [] (.qs [0,1,2,3,4,5,6,7,8] (.l 9 [4,1] (.l 10 [] (.qs [11,12,13] (.l 14 [] (.l 15 [] (.qs [16] .nil) .no) .no)) (.l 14 [4,1] (.l 10 [] (.qs [11,12,13] (.l 15 [] (.qs [16] .nil) .no)) .no) .no)) (.l 14 [7,4,1] (.l 9 [4,1] (.l 10 [] (.qs [11,12,13] (.l 15 [] (.qs [16] .nil) .no)) .no) .no) .no))) (by decide+kernel) ?_|refine⟨0,_,rfl,hg,?_⟩|refine aC ?_ ?_<;>intro<;>try omega|refine z1_R1 ?_|(refine aK [] (cS) ?_)|(refine aK [] (cM) ?_)|(refine aK [] (cC) ?_)|(refine aK [] (cZ) ?_)|(refine aK [] (cD) ?_)|refine And.intro ?_ ?_|fail);all_goals try (conv=>whnf)
 all_goals first
  |exact absurd hS (by assumption)
  |contradiction
  |(exfalso;omega)
  |exact rfl
  |trace_state
end
end Go.Proofs.YtjhmjiimpmmnhaaGreat
