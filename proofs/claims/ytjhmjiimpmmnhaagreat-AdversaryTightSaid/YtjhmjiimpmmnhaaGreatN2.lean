/- Lemmas of this seat. Conditions: as stated. -/
import Derived.Test.YtjhmjiimpmmnhaaGreatJ1
set_option linter.unusedVariables false
set_option linter.unusedSimpArgs false
set_option maxHeartbeats 2000000
set_option maxRecDepth 4000
namespace Go.Proofs.YtjhmjiimpmmnhaaGreat
section
open Go.Sx Go.Np
theorem wcl_ok (x lo hi:Int):Ctr Tryz.prog 261 [i64 x, .pptr [i64 lo], .pptr [i64 hi]] [] (fun r o=>o=[]∧r= .bp (x<lo∨hi<x)):=by
 refine Ctr.imp ?_
 refine fI 0 Tryz.func261 ?_
 (repeat' (conv=>whnf);first|refine aC ?_ ?_<;>intro<;>try omega|refine z1_R1 ?_|fail);all_goals try (conv=>whnf)
 ·exact⟨rfl,Imp.bl ⟨fun _=> .inl (by assumption),fun _=>rfl⟩⟩
 ·exact⟨rfl,Imp.bp ⟨fun h=> .inr h,fun h=>by omega⟩⟩
theorem idxF_ok (l:List Int) (hl:l.length≤9223372036854775807) (g:Nat) (c d:SV) (P:Int→Prop) (hg:∀x,Ctr Tryz.prog g [i64 x,c,d] [] (fun r o=>o=[]∧r= .bp (P x))):
  Ctr Tryz.prog 264 [.psl 1 (ints l), .fn g [.shut c, .shut d]] [] (fun r o=>∃z:Int,(0≤z↔∃i,i<l.length∧P (l.getD i 0))∧o=[]∧r=i64 z):=by
 refine fI 0 Tryz.func264 ?_
 have hll:=ints_len l
 (repeat' (conv=>whnf);first|refine aC ?_ ?_<;>intro _|refine z1_R1 ?_|fail);all_goals try (conv=>whnf)
 refine LoopOb.mk (Y:=Nat) (st:=fun i=>⟨[(8,i64 i),(7,i64 (ints l).length),(1, .fn g [.shut c, .shut d]),(0, .psl 1 (ints l))],[]⟩)
  (inv:=fun i=>i≤l.length∧∀j<i,¬P (l.getD j 0)) (fun i=>l.length-i) 0 [] ⟨by omega,by omega⟩ (by(exact aL)) ?_
 rintro i ⟨hi,hv⟩
 (repeat' (conv=>whnf);first|refine z1_R1 ?_|fail);all_goals try (conv=>whnf)
 refine CondOb.mk (fun hlt=>?_) (fun hlt=>?_)
 ·have cg:=hg (l.getD i 0)
  (repeat' (conv=>whnf);first|refine aC ?_ ?_<;>intro _|refine z1_R1 ?_|(refine CallOb.mk [] cg rfl ⟨Imp.refl _,Imp.unshut _,Imp.unshut _,trivial⟩ rfl rfl ?_;rintro _ _ ⟨rfl,rfl⟩)|fail);all_goals try (conv=>whnf)
  ·exact⟨i,⟨fun _=>⟨i,by omega,by assumption⟩,fun _=>by omega⟩,rfl,rfl⟩
  ·refine⟨i+1,[],⟨by omega,fun j hj=>?_⟩,by omega,by(exact aL)⟩
   by_cases e:j=i
   ·subst e;assumption
   ·exact hv j (by omega)
 ·(repeat' (conv=>whnf);first|refine aC ?_ ?_<;>intro _|refine z1_R1 ?_|fail);all_goals try (conv=>whnf)
  exact⟨-1,⟨fun h=>by omega,fun⟨j,h1,h2⟩=>absurd h2 (hv j (by omega))⟩,rfl,rfl⟩
theorem cntF_ok (l:List Int) (hl:l.length≤9223372036854775807) (g:Nat) (c d:SV) (P:Int→Prop) (hg:∀x,Ctr Tryz.prog g [i64 x,c,d] [] (fun r o=>o=[]∧r= .bp (P x))):
  Ctr Tryz.prog 260 [.psl 1 (ints l), .fn g [.shut c, .shut d]] [] (fun r o=>o=[]∧r= .bp (∃i,i<l.length∧P (l.getD i 0))):=by
 refine Ctr.imp ?_
 refine fI 0 Tryz.func260 ?_
 (repeat' (conv=>whnf);first|refine aC ?_ ?_<;>intro _|refine z1_R1 ?_|fail);all_goals try (conv=>whnf)
 refine aM [] (idxF_ok l hl g c d P hg) rfl rfl ?_
 rintro _ _ ⟨z,hz,rfl,rfl⟩
 (repeat' (conv=>whnf);first|refine aC ?_ ?_<;>intro _|refine z1_R1 ?_|fail);all_goals try (conv=>whnf)
 exact⟨rfl,Imp.bp hz⟩
theorem inR_iff {l:List Int} {lo hi:Int}:inR l lo hi↔¬∃i,i<l.length∧(l.getD i 0<lo∨hi<l.getD i 0):=by
 unfold inR
 constructor
 ·rintro h ⟨i,h1,h2⟩
  have:=h _ (getD_in (d:=0) h1)
  omega
 ·intro h x hx
  obtain⟨i,h1,rfl⟩:=List.mem_iff_getElem.1 hx
  by_cases e:lo≤l[i]∧l[i]≤hi
  ·exact e
  ·exact absurd ⟨i,h1,by rw [List.getD_eq_getElem?_getD,List.getElem?_eq_getElem h1,Option.getD_some];omega⟩ h
theorem within_ok (l:List Int) (hl:l.length≤9223372036854775807) (lo hi:Int):Ctr Tryz.prog 258 [.psl 1 (ints l),i64 lo,i64 hi] [] (fun r o=>o=[]∧r= .bp (inR l lo hi)):=by
 refine Ctr.imp ?_
 refine fI 0 Tryz.func258 ?_
 (repeat' (conv=>whnf);first|refine aC ?_ ?_<;>intro _|refine z2_J3 ?_|fail);all_goals try (conv=>whnf)
 refine .mk [.fb 0, .fb 1] ?_
 (repeat' (conv=>whnf);first|refine aC ?_ ?_<;>intro _|refine z1_R1 ?_|fail);all_goals try (conv=>whnf)
 refine CallOb.mk [] (cntF_ok l hl 261 (.pptr [i64 lo]) (.pptr [i64 hi]) (fun x=>x<lo∨hi<x) (fun x=>wcl_ok x lo hi)) rfl ⟨Imp.refl _,Imp.fn ⟨Imp.shut rfl,Imp.shut rfl,trivial⟩,trivial⟩ rfl rfl ?_
 rintro _ _ ⟨rfl,rfl⟩
 (repeat' (conv=>whnf);first|refine aC ?_ ?_<;>intro _|refine z1_R1 ?_|fail);all_goals try (conv=>whnf)
 exact⟨rfl,Imp.bp inR_iff.symm⟩
theorem rwithin_ok (l : List Int) (hl : l.length ≤ 9223372036854775807) (lo hi : Int) : Ctr Tryz.prog 100 [.psl 1 (ints l), i64 lo, i64 hi] [] (fun r o => o = [] ∧ r = .bp (inR l lo hi)) := by
  refine Ctr.imp ?_
  refine fI 0 Tryz.func100 ?_
  have hll := ints_len l
  (repeat' (conv => whnf); first | refine aC ?_ ?_ <;> intro _ | refine z1_R1 ?_ | fail); all_goals try (conv => whnf)
  refine LoopOb.mk (Y := Nat) (st := fun i => ⟨[(7, i64 i), (2, i64 hi), (1, i64 lo), (0, .psl 1 (ints l))], []⟩)
    (inv := fun i => i ≤ l.length ∧ ∀ j < i, ¬(l.getD j 0 < lo ∨ hi < l.getD j 0)) (fun i => l.length - i) 0 [] ⟨by omega, by omega⟩ (by (exact aL)) ?_
  rintro i ⟨hi', hv⟩
  (repeat' (conv => whnf); first | refine z1_R1 ?_ | fail); all_goals try (conv => whnf)
  refine CondOb.mk (fun hlt => ?_) (fun hlt => ?_)
  · (repeat' (conv => whnf); first | refine aC ?_ ?_ <;> intro <;> try omega | refine z1_R1 ?_ | fail); all_goals try (conv => whnf)
    all_goals first
      | exact ⟨rfl, Imp.bl ⟨fun h => (by cases h), fun h => absurd ⟨i, by omega, by omega⟩ (inR_iff.1 h)⟩⟩
      | (refine ⟨i + 1, [], ⟨by omega, fun j hj => ?_⟩, by omega, by (exact aL)⟩
         by_cases e : j = i
         · subst e; omega
         · exact hv j (by omega))
  · (repeat' (conv => whnf); first | refine aC ?_ ?_ <;> intro _ | refine z1_R1 ?_ | fail); all_goals try (conv => whnf)
    exact ⟨rfl, Imp.bl ⟨fun _ => inR_iff.2 fun ⟨j, h1, h2⟩ => hv j (by omega) h2, fun _ => rfl⟩⟩
abbrev lls (l:List (List Int)):List (List SV):=l.map fun u=>[.psl 1 (ints u)]
theorem lll (l:List (List Int)):(lls l).length =l.length:=by simp [lls]
theorem llg {l:List (List Int)} {i:Nat} (h:i<l.length):(lls l)[i]? =some [.psl 1 (ints (l.getD i []))]:=by simp [lls,h]
theorem lists_ok (right:Prop) (us:List (List Int)) (hu:us.length≤10) (hl:∀u∈us,u.length≤9223372036854775807):
  Ctr Tryz.prog 244 [.bp right, .psl 1 (lls us)] [] (fun r o=>∃e:Int,(¬right∧e=2∨right∧(∃u∈us,u.length≠0)∧e=6∨right∧(∀u∈us,u.length=0)∧e=0)∧o=[]∧r=i64 e):=by
 refine fI 0 Tryz.func244 ?_
 have hll:=lll us
 (repeat' (conv=>whnf);first|refine aC ?_ ?_<;>intro _|refine z1_R1 ?_|fail);all_goals try (conv=>whnf)
 ·exact⟨2, .inl ⟨by assumption,rfl⟩,rfl,rfl⟩
 have hr:=Classical.not_not.1 ‹¬¬right›
 refine LoopOb.mk (Y:=Nat) (st:=fun i=>⟨[(11,i64 i),(10,i64 (lls us).length),(9, .psl 1 (lls us))],[]⟩)
  (inv:=fun i=>i≤us.length∧∀j<i,(us.getD j []).length =0) (fun i=>us.length-i) 0 [] ⟨by omega,by omega⟩ (by(exact aL)) ?_
 rintro i ⟨hi',hv⟩
 (repeat' (conv=>whnf);first|refine z1_R1 ?_|fail);all_goals try (conv=>whnf)
 refine CondOb.mk (fun hlt=>?_) (fun hlt=>?_)
 ·have hil:i<us.length:=by omega
  have hin:=getD_in (d:=([]:List Int)) hil
  have hle:=hl _ hin
  have hst:(us.getD i []).length =0→∀j<i+1,(us.getD j []).length =0:=fun h j hj=>by
   by_cases e:j=i
   ·rw [e];exact h
   ·exact hv j (by omega)
  have hg:=llg hil
  generalize us.getD i []=u at*
  have hlu:=ints_len u
  (repeat' (conv=>whnf);first|refine aC ?_ ?_<;>intro<;>try omega|refine z1_R1 ?_|refine⟨i,_,rfl,hg,?_⟩|fail);all_goals try (conv=>whnf)
  ·exact⟨6, .inr (.inl ⟨hr,⟨u,hin,by omega⟩,rfl⟩),rfl,rfl⟩
  ·exact⟨i+1,[],⟨by omega,hst (by omega)⟩,by omega,by(exact aL)⟩
 ·(repeat' (conv=>whnf);first|refine aC ?_ ?_<;>intro _|refine z1_R1 ?_|fail);all_goals try (conv=>whnf)
  refine⟨0, .inr (.inr ⟨hr,fun u hu=>?_,rfl⟩),rfl,rfl⟩
  obtain⟨j,hj,rfl⟩:=List.mem_iff_getElem.1 hu
  have:=hv j (by omega)
  rw [List.getD_eq_getElem?_getD,List.getElem?_eq_getElem hj,Option.getD_some]at this
  exact this
end
section
open Go.Sx Go.Np
abbrev lv (l:Ln):SV:= .agg [i64 l.k,i64 l.c,i64 l.n, .psl 1 (ints l.w), .psl 1 (ints l.s)]
structure LL (l:Ln):Prop where
 w:l.w.length≤9223372036854775807
 s:l.s.length≤9223372036854775807
theorem fifo_ok (l:Ln) (hl:LL l) (hk:l.k=1):Ctr Tryz.prog 241 [.agg [],lv l] [] (fun r o=>o=[]∧r=i64 (lsErr l)):=by
 refine fI 0 Tryz.func241 ?_
 (repeat' (conv=>whnf);first|refine LitOb.ful ?_|refine aC ?_ ?_<;>intro _|refine z1_R1 ?_|(refine CallOb.mk [] (lists_ok True [l.w,l.s] (by simp) (fun u hu=>by simp only [List.mem_cons,List.not_mem_nil,or_false]at hu;rcases hu with rfl|rfl;exact hl.w;exact hl.s)) rfl ⟨Imp.bl (by simp),Imp.fulp rfl,trivial⟩ rfl rfl ?_;rintro _ _ ⟨e,he,rfl,rfl⟩)|fail);all_goals try (conv=>whnf)
 refine⟨rfl,?_⟩
 simp only [oneS]
 congr 1
 simp only [not_true_eq_false,false_and,true_and,List.mem_cons,List.not_mem_nil,or_false,exists_eq_or_imp,exists_eq_left,forall_eq_or_imp,forall_eq,false_or]at he
 unfold lsErr
 rw [if_neg (by omega)]
 rcases he with⟨h,rfl⟩|⟨h,rfl⟩
 ·rw [if_pos (by omega)]
 ·rw [if_neg (by omega)]
theorem ranks_ok (l:Ln) (hl:LL l) (hk:l.k=2):Ctr Tryz.prog 249 [.agg [],lv l] [] (fun r o=>o=[]∧r=i64 (lsErr l)):=by
 refine fI 0 Tryz.func249 ?_
 (repeat' (conv=>whnf);first|refine LitOb.ful ?_|refine aC ?_ ?_<;>intro _|refine z1_R1 ?_|(refine CallOb.mk [] (lists_ok True [l.w,l.s] (by simp) (fun u hu=>by simp only [List.mem_cons,List.not_mem_nil,or_false]at hu;rcases hu with rfl|rfl;exact hl.w;exact hl.s)) rfl ⟨Imp.bl (by simp),Imp.fulp rfl,trivial⟩ rfl rfl ?_;rintro _ _ ⟨e,he,rfl,rfl⟩)|fail);all_goals try (conv=>whnf)
 refine⟨rfl,?_⟩
 simp only [oneS]
 congr 1
 simp only [not_true_eq_false,false_and,true_and,List.mem_cons,List.not_mem_nil,or_false,exists_eq_or_imp,exists_eq_left,forall_eq_or_imp,forall_eq,false_or]at he
 unfold lsErr
 rw [if_neg (by omega)]
 rcases he with⟨h,rfl⟩|⟨h,rfl⟩
 ·rw [if_pos (by omega)]
 ·rw [if_neg (by omega)]
theorem z2_N3 {G H:Prop} (k:H) (h:H→G:=by first|exact fun r=>aS r|exact fun r=>aG r|exact fun r=>aD r|exact fun r=>aH r|exact fun r=>aP_R1 r|exact fun r=>aI r|exact fun r=>aJ r|exact fun r=>aW (.qs [0,1,2,3,4,5,6,7,8,11,12] (.l 9 [12] (.qs [10] (.l 13 [] (.l 14 [] (.qs [15] .nil) .no) .no)) (.l 13 [8,4,1] (.l 9 [] (.qs [10] (.l 14 [] (.qs [15] .nil) .no)) .no) .no))) r):G:=h k
theorem robin_ok (l:Ln) (hl:LL l) (hk:l.k=3) (hn:1≤l.n∧l.n≤6):Ctr Tryz.prog 255 [.agg [],lv l] [] (fun r o=>o=[]∧r=i64 (lsErr l)):=by
 refine fI 0 Tryz.func255 ?_
 have hw:=hl.w
 have hs:=hl.s
 have hlw:=ints_len l.w
 have hls:=ints_len l.s
 have key:∀e:Int,(¬((l.w.length:Int)=l.n∧inR l.w 1 20)∧e=2∨((l.w.length:Int)=l.n∧inR l.w 1 20)∧(∃u∈[l.s],u.length≠0)∧e=6∨((l.w.length:Int)=l.n∧inR l.w 1 20)∧(∀u∈[l.s],u.length=0)∧e=0)→e=lsErr l:=by
  intro e he
  simp only [List.mem_cons,List.not_mem_nil,or_false,exists_eq_left,forall_eq]at he
  unfold lsErr
  rcases he with⟨h,rfl⟩|⟨h,h2,rfl⟩|⟨h,h2,rfl⟩
  ·rw [if_pos (by exact .inl ⟨hk,h⟩)]
  ·rw [if_neg (by rintro(⟨h3,h4⟩|⟨h3,h4⟩|⟨h3,h4⟩)<;>first|omega|exact h4 h),if_pos (by omega)]
  ·rw [if_neg (by rintro(⟨h3,h4⟩|⟨h3,h4⟩|⟨h3,h4⟩)<;>first|omega|exact h4 h),if_neg (by omega)]
 have hla:∀u∈[l.s],u.length≤9223372036854775807:=fun u hu=>by simp only [List.mem_cons,List.not_mem_nil,or_false]at hu;rw [hu];exact hl.s
 (repeat' (conv=>whnf);first|refine LitOb.ful ?_|refine aC ?_ ?_<;>intro<;>try omega|refine z2_N3 ?_|(refine aK [] (within_ok l.w hl.w 1 20) ?_)|(refine CallOb.mk [] (lists_ok ((l.w.length:Int)=l.n∧inR l.w 1 20) [l.s] (by simp) hla) rfl ⟨Imp.bp ⟨fun h=>⟨by omega,h⟩,fun h=>h.2⟩,Imp.fulp rfl,trivial⟩ rfl rfl ?_;rintro _ _ ⟨e,he,rfl,rfl⟩)|(refine CallOb.mk [] (lists_ok ((l.w.length:Int)=l.n∧inR l.w 1 20) [l.s] (by simp) hla) rfl ⟨Imp.bl ⟨fun h=>(by cases h),fun h=>absurd h (fun h=>by omega)⟩,Imp.fulp rfl,trivial⟩ rfl rfl ?_;rintro _ _ ⟨e,he,rfl,rfl⟩)|refine And.intro ?_ ?_|fail);all_goals try (conv=>whnf)
 all_goals first
  |rfl
  |(simp only [oneS];rw [key _ he])
  |trace_state
theorem deficits_ok (l:Ln) (hl:LL l) (hk:l.k=4) (hn:1≤l.n∧l.n≤6):Ctr Tryz.prog 265 [.agg [],lv l] [] (fun r o=>o=[]∧r=i64 (lsErr l)):=by
 refine fI 0 Tryz.func265 ?_
 have hw:=hl.w
 have hs:=hl.s
 have hlw:=ints_len l.w
 have hls:=ints_len l.s
 have key:∀e:Int,(¬((l.w.length:Int)=l.n∧inR l.w 1 6000)∧e=2∨((l.w.length:Int)=l.n∧inR l.w 1 6000)∧(∃u∈[l.s],u.length≠0)∧e=6∨((l.w.length:Int)=l.n∧inR l.w 1 6000)∧(∀u∈[l.s],u.length=0)∧e=0)→e=lsErr l:=by
  intro e he
  simp only [List.mem_cons,List.not_mem_nil,or_false,exists_eq_left,forall_eq]at he
  unfold lsErr
  rcases he with⟨h,rfl⟩|⟨h,h2,rfl⟩|⟨h,h2,rfl⟩
  ·rw [if_pos (by exact .inr (.inl ⟨hk,h⟩))]
  ·rw [if_neg (by rintro(⟨h3,h4⟩|⟨h3,h4⟩|⟨h3,h4⟩)<;>first|omega|exact h4 h),if_pos (by omega)]
  ·rw [if_neg (by rintro(⟨h3,h4⟩|⟨h3,h4⟩|⟨h3,h4⟩)<;>first|omega|exact h4 h),if_neg (by omega)]
 have hla:∀u∈[l.s],u.length≤9223372036854775807:=fun u hu=>by simp only [List.mem_cons,List.not_mem_nil,or_false]at hu;rw [hu];exact hl.s
 (repeat' (conv=>whnf);first|refine LitOb.ful ?_|refine aC ?_ ?_<;>intro<;>try omega|refine z2_N3 ?_|(refine aK [] (within_ok l.w hl.w 1 6000) ?_)|(refine CallOb.mk [] (lists_ok ((l.w.length:Int)=l.n∧inR l.w 1 6000) [l.s] (by simp) hla) rfl ⟨Imp.bp ⟨fun h=>⟨by omega,h⟩,fun h=>h.2⟩,Imp.fulp rfl,trivial⟩ rfl rfl ?_;rintro _ _ ⟨e,he,rfl,rfl⟩)|(refine CallOb.mk [] (lists_ok ((l.w.length:Int)=l.n∧inR l.w 1 6000) [l.s] (by simp) hla) rfl ⟨Imp.bl ⟨fun h=>(by cases h),fun h=>absurd h (fun h=>by omega)⟩,Imp.fulp rfl,trivial⟩ rfl rfl ?_;rintro _ _ ⟨e,he,rfl,rfl⟩)|refine And.intro ?_ ?_|fail);all_goals try (conv=>whnf)
 all_goals first
  |rfl
  |(simp only [oneS];rw [key _ he])
  |trace_state
theorem z3_N3 {G H:Prop} (k:H) (h:H→G:=by first|exact fun r=>aS r|exact fun r=>aG r|exact fun r=>aD r|exact fun r=>aH r|exact fun r=>aP_R1 r|exact fun r=>aI r|exact fun r=>aJ r|exact fun r=>aW (.qs [0,1,2,3,4,5,6,7,8,9,10,11,12,13,14,15,18,19] (.l 16 [19] (.qs [17] (.l 20 [] (.l 21 [] (.qs [22] .nil) .no) .no)) (.l 20 [14,12,6,1] (.l 16 [] (.qs [17] (.l 21 [] (.qs [22] .nil) .no)) .no) .no))) r):G:=h k
theorem times_ok (l:Ln) (hl:LL l) (hk:l.k=5) (hn:1≤l.n∧l.n≤6):Ctr Tryz.prog 272 [.agg [],lv l] [] (fun r o=>o=[]∧r=i64 (lsErr l)):=by
 refine fI 0 Tryz.func272 ?_
 have hw:=hl.w
 have hs:=hl.s
 have hlw:=ints_len l.w
 have hls:=ints_len l.s
 have key:∀e:Int,(¬(1≤l.s.length∧l.s.length≤40∧inR l.s (-1) (l.n-1))∧e=2∨(1≤l.s.length∧l.s.length≤40∧inR l.s (-1) (l.n-1))∧(∃u∈[l.w],u.length≠0)∧e=6∨(1≤l.s.length∧l.s.length≤40∧inR l.s (-1) (l.n-1))∧(∀u∈[l.w],u.length=0)∧e=0)→e=lsErr l:=by
  intro e he
  simp only [List.mem_cons,List.not_mem_nil,or_false,exists_eq_left,forall_eq]at he
  unfold lsErr
  rcases he with⟨h,rfl⟩|⟨h,h2,rfl⟩|⟨h,h2,rfl⟩
  ·rw [if_pos (by exact .inr (.inr ⟨hk,h⟩))]
  ·rw [if_neg (by rintro(⟨h3,h4⟩|⟨h3,h4⟩|⟨h3,h4⟩)<;>first|omega|exact h4 h),if_pos (by omega)]
  ·rw [if_neg (by rintro(⟨h3,h4⟩|⟨h3,h4⟩|⟨h3,h4⟩)<;>first|omega|exact h4 h),if_neg (by omega)]
 have hla:∀u∈[l.w],u.length≤9223372036854775807:=fun u hu=>by simp only [List.mem_cons,List.not_mem_nil,or_false]at hu;rw [hu];exact hl.w
 (repeat' (conv=>whnf);first|refine LitOb.ful ?_|refine aC ?_ ?_<;>intro<;>try omega|refine z3_N3 ?_|(refine aK [] (within_ok l.s hl.s (-1) (l.n-1)) ?_)|(refine CallOb.mk [] (lists_ok (1≤l.s.length∧l.s.length≤40∧inR l.s (-1) (l.n-1)) [l.w] (by simp) hla) rfl ⟨Imp.bp ⟨fun h=>⟨by omega,by omega,h⟩,fun h=>h.2.2⟩,Imp.fulp rfl,trivial⟩ rfl rfl ?_;rintro _ _ ⟨e,he,rfl,rfl⟩)|(refine CallOb.mk [] (lists_ok (1≤l.s.length∧l.s.length≤40∧inR l.s (-1) (l.n-1)) [l.w] (by simp) hla) rfl ⟨Imp.bl ⟨fun h=>(by cases h),fun h=>absurd h (fun h=>by omega)⟩,Imp.fulp rfl,trivial⟩ rfl rfl ?_;rintro _ _ ⟨e,he,rfl,rfl⟩)|refine And.intro ?_ ?_|fail);all_goals try (conv=>whnf)
 all_goals first
  |rfl
  |(simp only [oneS];rw [key _ he])
  |trace_state
end
section
open Go.Sx Go.Np
theorem lk_cons {k a:Int} {v:SV} {l:List (Int×SV)}:List.lookup k ((a,v)::l)=if k=a then some v else List.lookup k l:=by
 by_cases h:k=a
 ·subst h;simp [List.lookup]
 ·rw [if_neg h]
  have:(k==a)=false:=by simp [h]
  simp only [List.lookup,this]
theorem kind_ok (k:Int):Ctr Tryz.prog 96 [i64 k] [] (fun r o=>∃s:SV×Bool,((k<1∨5<k)∧s=(.raw .nilIface,false)∨k=1∧s=(.ifc 183 (.agg []),true)∨k=2∧s=(.ifc 184 (.agg []),true)∨k=3∧s=(.ifc 185 (.agg []),true)∨k=4∧s=(.ifc 186 (.agg []),true)∨k=5∧s=(.ifc 187 (.agg []),true))∧o=[]∧r= .tup [s.1, .bl s.2]):=by
 refine fI 0 Tryz.func96 ?_
 (repeat' (conv=>whnf);first|refine aC ?_ ?_<;>intro _|refine z1_R1 ?_|refine PutOb.mk (fun h=>absurd rfl h) (fun _=>?_)|fail);all_goals try (conv=>whnf)
 refine MapOb.mk (fun v hv=>?_) (fun hv=>?_)
 all_goals simp only [List.nil_append,List.cons_append,lk_cons,List.lookup_nil]at hv
 ·repeat' (split at hv)
  all_goals first
   |(cases hv;done)
   |(injection hv with hv;subst hv)
  all_goals
   subst k
   (repeat' (conv=>whnf);first|refine aC ?_ ?_<;>intro _|refine z1_R1 ?_|refine PutOb.mk (fun h=>absurd rfl h) (fun _=>?_)|fail);all_goals try (conv=>whnf)
   exact⟨(_,true),by simp,rfl,rfl⟩
 ·have hk:k<1∨5<k:=by
   repeat' (split at hv)
   all_goals first
    |(cases hv;done)
    |omega
  (repeat' (conv=>whnf);first|refine aC ?_ ?_<;>intro _|refine z1_R1 ?_|fail);all_goals try (conv=>whnf)
  exact⟨(_,false), .inl ⟨hk,rfl⟩,rfl,rfl⟩
theorem lCheck_ok (l:Ln) (hl:LL l):Ctr Tryz.prog 66 [lv l] [] (fun r o=>o=[]∧r=i64 (lnErr l)):=by
 refine fI 0 Tryz.func66 ?_
 (repeat' (conv=>whnf);first|refine aC ?_ ?_<;>intro _|refine z1_R1 ?_|fail);all_goals try (conv=>whnf)
 refine aM [] (kind_ok l.k) rfl rfl ?_
 rintro _ _ ⟨⟨s,b⟩,hs,rfl,rfl⟩
 dsimp only at hs⊢
 have rng:∀{e:Int},1≤l.k∧l.k≤5→(1≤l.c∧l.c≤4000∧1≤l.n∧l.n≤6)→e=lsErr l→e=lnErr l:=fun h1 h2 h3=>by
  unfold lnErr;rw [if_neg (by omega),if_neg (by omega)];exact h3
 rcases hs with⟨hk,hs⟩|⟨hk,hs⟩|⟨hk,hs⟩|⟨hk,hs⟩|⟨hk,hs⟩|⟨hk,hs⟩
 ·cases hs
  (repeat' (conv=>whnf);first|refine aC ?_ ?_<;>intro _|refine z1_R1 ?_|fail);all_goals try (conv=>whnf)
  exact⟨rfl,by unfold lnErr;rw [if_pos hk];rfl⟩
 ·cases hs
  (repeat' (conv=>whnf);first|refine aC ?_ ?_<;>intro<;>try omega|refine z1_R1 ?_|refine InvOb.mk 241 (by decide+kernel) ?_|(refine aK [] (fifo_ok l hl hk) ?_)|fail);all_goals try (conv=>whnf)
  all_goals first
   |exact⟨rfl,by unfold lnErr;rw [if_neg (by omega),if_pos (by omega)];rfl⟩
   |exact⟨rfl,by unfold lnErr;rw [if_neg (by omega),if_neg (by omega)];rfl⟩
   |trace_state
 ·cases hs
  (repeat' (conv=>whnf);first|refine aC ?_ ?_<;>intro<;>try omega|refine z1_R1 ?_|refine InvOb.mk 249 (by decide+kernel) ?_|(refine aK [] (ranks_ok l hl hk) ?_)|fail);all_goals try (conv=>whnf)
  all_goals first
   |exact⟨rfl,by unfold lnErr;rw [if_neg (by omega),if_pos (by omega)];rfl⟩
   |exact⟨rfl,by unfold lnErr;rw [if_neg (by omega),if_neg (by omega)];rfl⟩
   |trace_state
 ·cases hs
  (repeat' (conv=>whnf);first|refine aC ?_ ?_<;>intro<;>try omega|refine z1_R1 ?_|refine InvOb.mk 255 (by decide+kernel) ?_|(refine aK [] (robin_ok l hl hk (by omega)) ?_)|fail);all_goals try (conv=>whnf)
  all_goals first
   |exact⟨rfl,by unfold lnErr;rw [if_neg (by omega),if_pos (by omega)];rfl⟩
   |exact⟨rfl,by unfold lnErr;rw [if_neg (by omega),if_neg (by omega)];rfl⟩
   |trace_state
 ·cases hs
  (repeat' (conv=>whnf);first|refine aC ?_ ?_<;>intro<;>try omega|refine z1_R1 ?_|refine InvOb.mk 265 (by decide+kernel) ?_|(refine aK [] (deficits_ok l hl hk (by omega)) ?_)|fail);all_goals try (conv=>whnf)
  all_goals first
   |exact⟨rfl,by unfold lnErr;rw [if_neg (by omega),if_pos (by omega)];rfl⟩
   |exact⟨rfl,by unfold lnErr;rw [if_neg (by omega),if_neg (by omega)];rfl⟩
   |trace_state
 ·cases hs
  (repeat' (conv=>whnf);first|refine aC ?_ ?_<;>intro<;>try omega|refine z1_R1 ?_|refine InvOb.mk 272 (by decide+kernel) ?_|(refine aK [] (times_ok l hl hk (by omega)) ?_)|fail);all_goals try (conv=>whnf)
  all_goals first
   |exact⟨rfl,by unfold lnErr;rw [if_neg (by omega),if_pos (by omega)];rfl⟩
   |exact⟨rfl,by unfold lnErr;rw [if_neg (by omega),if_neg (by omega)];rfl⟩
   |trace_state
end
section
open Go.Sx Go.Np
theorem rlCheck_ok (l:Ln) (hl:LL l):Ctr Tryz.prog 72 [lv l] [] (fun r o=>o=[]∧r=i64 (lnErr l)):=by
 refine fI 0 Tryz.func72 ?_
 have hw:=hl.w
 have hs:=hl.s
 have c1:=rwithin_ok l.w hl.w 1 20
 have c2:=rwithin_ok l.w hl.w 1 6000
 have c3:=rwithin_ok l.s hl.s (-1) (l.n-1)
 have hlw:=ints_len l.w
 have hls:=ints_len l.s
 (repeat' (conv=>whnf);first|refine aC ?_ ?_<;>intro<;>try omega|refine z1_R1 ?_|(refine aK [] c1 ?_)|(refine aK [] c2 ?_)|(refine aK [] c3 ?_)|fail);all_goals try (conv=>whnf)
 all_goals first
  |(refine⟨rfl,?_⟩;show SV.num IntKind.i64 _=SV.num IntKind.i64 _;congr 1;unfold lnErr lsErr;clear c1 c2 c3;grind)
  |trace_state
end
end Go.Proofs.YtjhmjiimpmmnhaaGreat
