/- Lemmas of this seat. Conditions: as stated. -/
import Derived.Test.YtbcjojomkibgeaaGreatN1
set_option linter.unusedVariables false
set_option linter.unusedSimpArgs false
set_option maxHeartbeats 2000000
set_option maxRecDepth 4000
namespace Go.Proofs.YtbcjojomkibgeaaGreat
open Go.Sx Go.Np
abbrev lv (l:Ln):SV:= .agg [i64 l.k,i64 l.c,i64 l.n, .psl 1 (ints l.w), .psl 1 (ints l.s)]
structure LL (l:Ln):Prop where
 w:l.w.length≤9223372036854775807
 s:l.s.length≤9223372036854775807
theorem fifo_ok (l:Ln) (hl:LL l) (hk:l.k=1):Ctr Tryz.prog 158 [.agg [],lv l] [] (fun r o=>o=[]∧r=i64 (lsErr l)):=by
 refine fI 0 Tryz.func158 ?_
 (repeat' (conv=>whnf);first|refine LitOb.ful ?_|refine aC ?_ ?_<;>intro _|refine z1_N1 ?_|(refine CallOb.mk [] (lists_ok True [l.w,l.s] (by simp) (fun u hu=>by simp only [List.mem_cons,List.not_mem_nil,or_false]at hu;rcases hu with rfl|rfl;exact hl.w;exact hl.s)) rfl ⟨Imp.bl (by simp),Imp.fulp rfl,trivial⟩ rfl rfl ?_;rintro _ _ ⟨e,he,rfl,rfl⟩)|fail);all_goals try (conv=>whnf)
 refine⟨rfl,?_⟩
 simp only [oneS]
 congr 1
 simp only [not_true_eq_false,false_and,true_and,List.mem_cons,List.not_mem_nil,or_false,exists_eq_or_imp,exists_eq_left,forall_eq_or_imp,forall_eq,false_or]at he
 unfold lsErr
 rw [if_neg (by omega)]
 rcases he with⟨h,rfl⟩|⟨h,rfl⟩
 ·rw [if_pos (by omega)]
 ·rw [if_neg (by omega)]
theorem ranks_ok (l:Ln) (hl:LL l) (hk:l.k=2):Ctr Tryz.prog 162 [.agg [],lv l] [] (fun r o=>o=[]∧r=i64 (lsErr l)):=by
 refine fI 0 Tryz.func162 ?_
 (repeat' (conv=>whnf);first|refine LitOb.ful ?_|refine aC ?_ ?_<;>intro _|refine z1_N1 ?_|(refine CallOb.mk [] (lists_ok True [l.w,l.s] (by simp) (fun u hu=>by simp only [List.mem_cons,List.not_mem_nil,or_false]at hu;rcases hu with rfl|rfl;exact hl.w;exact hl.s)) rfl ⟨Imp.bl (by simp),Imp.fulp rfl,trivial⟩ rfl rfl ?_;rintro _ _ ⟨e,he,rfl,rfl⟩)|fail);all_goals try (conv=>whnf)
 refine⟨rfl,?_⟩
 simp only [oneS]
 congr 1
 simp only [not_true_eq_false,false_and,true_and,List.mem_cons,List.not_mem_nil,or_false,exists_eq_or_imp,exists_eq_left,forall_eq_or_imp,forall_eq,false_or]at he
 unfold lsErr
 rw [if_neg (by omega)]
 rcases he with⟨h,rfl⟩|⟨h,rfl⟩
 ·rw [if_pos (by omega)]
 ·rw [if_neg (by omega)]
theorem z2_N3 {G H:Prop} (k:H) (h:H→G:=by first|exact fun r=>aS r|exact fun r=>aG r|exact fun r=>aD r|exact fun r=>aH r|exact fun r=>aP_N1 r|exact fun r=>aI r|exact fun r=>aJ r|exact fun r=>aW (.qs [0,1,2,3,4,5,6,7,8,11,12] (.l 9 [12] (.qs [10] (.l 13 [] (.l 14 [] (.qs [15] .nil) .no) .no)) (.l 13 [8,4,1] (.l 9 [] (.qs [10] (.l 14 [] (.qs [15] .nil) .no)) .no) .no))) r):G:=h k
theorem robin_ok (l:Ln) (hl:LL l) (hk:l.k=3) (hn:1≤l.n∧l.n≤6):Ctr Tryz.prog 165 [.agg [],lv l] [] (fun r o=>o=[]∧r=i64 (lsErr l)):=by
 refine fI 0 Tryz.func165 ?_
 have hw:=hl.w
 have hs:=hl.s
 have hlw:=ints_len l.w
 have hls:=ints_len l.s
 have key:∀e:Int,(¬((l.w.length:Int)=l.n∧inR l.w 1 20)∧e=2∨((l.w.length:Int)=l.n∧inR l.w 1 20)∧(∃u∈[l.s],u.length≠0)∧e=6∨((l.w.length:Int)=l.n∧inR l.w 1 20)∧(∀u∈[l.s],u.length=0)∧e=0)→e=lsErr l:=by
  intro e he
  simp only [List.mem_cons,List.not_mem_nil,or_false,exists_eq_left,forall_eq]at he
  unfold lsErr
  rcases he with⟨h,rfl⟩|⟨h,h2,rfl⟩|⟨h,h2,rfl⟩
  ·rw [if_pos (by exact .inl ⟨hk,h⟩)]
  ·rw [if_neg (by rintro(⟨h3,h4⟩|⟨h3,h4⟩|⟨h3,h4⟩)<;>first|omega|exact h4 h),if_pos (by omega)]
  ·rw [if_neg (by rintro(⟨h3,h4⟩|⟨h3,h4⟩|⟨h3,h4⟩)<;>first|omega|exact h4 h),if_neg (by omega)]
 have hla:∀u∈[l.s],u.length≤9223372036854775807:=fun u hu=>by simp only [List.mem_cons,List.not_mem_nil,or_false]at hu;rw [hu];exact hl.s
 (repeat' (conv=>whnf);first|refine LitOb.ful ?_|refine aC ?_ ?_<;>intro<;>try omega|refine z2_N3 ?_|(refine aK [] (within_ok l.w hl.w 1 20) ?_)|(refine CallOb.mk [] (lists_ok ((l.w.length:Int)=l.n∧inR l.w 1 20) [l.s] (by simp) hla) rfl ⟨Imp.bp ⟨fun h=>⟨by omega,h⟩,fun h=>h.2⟩,Imp.fulp rfl,trivial⟩ rfl rfl ?_;rintro _ _ ⟨e,he,rfl,rfl⟩)|(refine CallOb.mk [] (lists_ok ((l.w.length:Int)=l.n∧inR l.w 1 20) [l.s] (by simp) hla) rfl ⟨Imp.bl ⟨fun h=>(by cases h),fun h=>absurd h (fun h=>by omega)⟩,Imp.fulp rfl,trivial⟩ rfl rfl ?_;rintro _ _ ⟨e,he,rfl,rfl⟩)|refine And.intro ?_ ?_|fail);all_goals try (conv=>whnf)
 all_goals first
  |rfl
  |(simp only [oneS];rw [key _ he])
  |trace_state
theorem deficits_ok (l:Ln) (hl:LL l) (hk:l.k=4) (hn:1≤l.n∧l.n≤6):Ctr Tryz.prog 172 [.agg [],lv l] [] (fun r o=>o=[]∧r=i64 (lsErr l)):=by
 refine fI 0 Tryz.func172 ?_
 have hw:=hl.w
 have hs:=hl.s
 have hlw:=ints_len l.w
 have hls:=ints_len l.s
 have key:∀e:Int,(¬((l.w.length:Int)=l.n∧inR l.w 1 6000)∧e=2∨((l.w.length:Int)=l.n∧inR l.w 1 6000)∧(∃u∈[l.s],u.length≠0)∧e=6∨((l.w.length:Int)=l.n∧inR l.w 1 6000)∧(∀u∈[l.s],u.length=0)∧e=0)→e=lsErr l:=by
  intro e he
  simp only [List.mem_cons,List.not_mem_nil,or_false,exists_eq_left,forall_eq]at he
  unfold lsErr
  rcases he with⟨h,rfl⟩|⟨h,h2,rfl⟩|⟨h,h2,rfl⟩
  ·rw [if_pos (by exact .inr (.inl ⟨hk,h⟩))]
  ·rw [if_neg (by rintro(⟨h3,h4⟩|⟨h3,h4⟩|⟨h3,h4⟩)<;>first|omega|exact h4 h),if_pos (by omega)]
  ·rw [if_neg (by rintro(⟨h3,h4⟩|⟨h3,h4⟩|⟨h3,h4⟩)<;>first|omega|exact h4 h),if_neg (by omega)]
 have hla:∀u∈[l.s],u.length≤9223372036854775807:=fun u hu=>by simp only [List.mem_cons,List.not_mem_nil,or_false]at hu;rw [hu];exact hl.s
 (repeat' (conv=>whnf);first|refine LitOb.ful ?_|refine aC ?_ ?_<;>intro<;>try omega|refine z2_N3 ?_|(refine aK [] (within_ok l.w hl.w 1 6000) ?_)|(refine CallOb.mk [] (lists_ok ((l.w.length:Int)=l.n∧inR l.w 1 6000) [l.s] (by simp) hla) rfl ⟨Imp.bp ⟨fun h=>⟨by omega,h⟩,fun h=>h.2⟩,Imp.fulp rfl,trivial⟩ rfl rfl ?_;rintro _ _ ⟨e,he,rfl,rfl⟩)|(refine CallOb.mk [] (lists_ok ((l.w.length:Int)=l.n∧inR l.w 1 6000) [l.s] (by simp) hla) rfl ⟨Imp.bl ⟨fun h=>(by cases h),fun h=>absurd h (fun h=>by omega)⟩,Imp.fulp rfl,trivial⟩ rfl rfl ?_;rintro _ _ ⟨e,he,rfl,rfl⟩)|refine And.intro ?_ ?_|fail);all_goals try (conv=>whnf)
 all_goals first
  |rfl
  |(simp only [oneS];rw [key _ he])
  |trace_state
theorem z3_N3 {G H:Prop} (k:H) (h:H→G:=by first|exact fun r=>aS r|exact fun r=>aG r|exact fun r=>aD r|exact fun r=>aH r|exact fun r=>aP_N1 r|exact fun r=>aI r|exact fun r=>aJ r|exact fun r=>aW (.qs [0,1,2,3,4,5,6,7,8,9,10,11,12,13,14,15,18,19] (.l 16 [19] (.qs [17] (.l 20 [] (.l 21 [] (.qs [22] .nil) .no) .no)) (.l 20 [14,12,6,1] (.l 16 [] (.qs [17] (.l 21 [] (.qs [22] .nil) .no)) .no) .no))) r):G:=h k
theorem ntimes_ok (l:Ln) (hl:LL l) (hk:l.k=5) (hn:1≤l.n∧l.n≤6):Ctr Tryz.prog 175 [.agg [],lv l] [] (fun r o=>o=[]∧r=i64 (lsErr l)):=by
 refine fI 0 Tryz.func175 ?_
 have hw:=hl.w
 have hs:=hl.s
 have hlw:=ints_len l.w
 have hls:=ints_len l.s
 have key:∀e:Int,(¬(1≤l.s.length∧l.s.length≤40∧inR l.s (-1) (l.n-1))∧e=2∨(1≤l.s.length∧l.s.length≤40∧inR l.s (-1) (l.n-1))∧(∃u∈[l.w],u.length≠0)∧e=6∨(1≤l.s.length∧l.s.length≤40∧inR l.s (-1) (l.n-1))∧(∀u∈[l.w],u.length=0)∧e=0)→e=lsErr l:=by
  intro e he
  simp only [List.mem_cons,List.not_mem_nil,or_false,exists_eq_left,forall_eq]at he
  unfold lsErr
  rcases he with⟨h,rfl⟩|⟨h,h2,rfl⟩|⟨h,h2,rfl⟩
  ·rw [if_pos (by exact .inr (.inr ⟨hk,h⟩))]
  ·rw [if_neg (by rintro(⟨h3,h4⟩|⟨h3,h4⟩|⟨h3,h4⟩)<;>first|omega|exact h4 h),if_pos (by omega)]
  ·rw [if_neg (by rintro(⟨h3,h4⟩|⟨h3,h4⟩|⟨h3,h4⟩)<;>first|omega|exact h4 h),if_neg (by omega)]
 have hla:∀u∈[l.w],u.length≤9223372036854775807:=fun u hu=>by simp only [List.mem_cons,List.not_mem_nil,or_false]at hu;rw [hu];exact hl.w
 (repeat' (conv=>whnf);first|refine LitOb.ful ?_|refine aC ?_ ?_<;>intro<;>try omega|refine z3_N3 ?_|(refine aK [] (within_ok l.s hl.s (-1) (l.n-1)) ?_)|(refine CallOb.mk [] (lists_ok (1≤l.s.length∧l.s.length≤40∧inR l.s (-1) (l.n-1)) [l.w] (by simp) hla) rfl ⟨Imp.bp ⟨fun h=>⟨by omega,by omega,h⟩,fun h=>h.2.2⟩,Imp.fulp rfl,trivial⟩ rfl rfl ?_;rintro _ _ ⟨e,he,rfl,rfl⟩)|(refine CallOb.mk [] (lists_ok (1≤l.s.length∧l.s.length≤40∧inR l.s (-1) (l.n-1)) [l.w] (by simp) hla) rfl ⟨Imp.bl ⟨fun h=>(by cases h),fun h=>absurd h (fun h=>by omega)⟩,Imp.fulp rfl,trivial⟩ rfl rfl ?_;rintro _ _ ⟨e,he,rfl,rfl⟩)|refine And.intro ?_ ?_|fail);all_goals try (conv=>whnf)
 all_goals first
  |rfl
  |(simp only [oneS];rw [key _ he])
  |trace_state
end Go.Proofs.YtbcjojomkibgeaaGreat
