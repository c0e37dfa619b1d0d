/- Lemmas of this seat. Conditions: as stated. -/
import Derived.Test.YtbcjojomkibgeaaGreatN2
set_option linter.unusedVariables false
set_option linter.unusedSimpArgs false
set_option maxHeartbeats 2000000
set_option maxRecDepth 4000
namespace Go.Proofs.YtbcjojomkibgeaaGreat
section
open Go.Sx Go.Np
abbrev lv (l:Ln):SV:= .agg [i64 l.k,i64 l.c,i64 l.n, .psl 1 (ints l.w), .psl 1 (ints l.s)]
structure LL (l:Ln):Prop where
 w:l.w.length≤9223372036854775807
 s:l.s.length≤9223372036854775807
theorem fifo_ok (l:Ln) (hl:LL l) (hk:l.k=1):Ctr Tryz.prog 158 [.agg [],lv l] [] (fun r o=>o=[]∧r=i64 (lsErr l)):=by
 refine fI 0 Tryz.func158 ?_
 (repeat' (conv=>whnf);first|refine LitOb.ful ?_|refine aC ?_ ?_<;>intro _|refine z1_Ks ?_|(refine CallOb.mk [] (lists_ok True [l.w,l.s] (by simp) (fun u hu=>by simp only [List.mem_cons,List.not_mem_nil,or_false]at hu;rcases hu with rfl|rfl;exact hl.w;exact hl.s)) rfl ⟨Imp.bl (by simp),Imp.fulp rfl,trivial⟩ rfl rfl ?_;rintro _ _ ⟨e,he,rfl,rfl⟩)|fail);all_goals try (conv=>whnf)
 refine⟨rfl,?_⟩
 simp only [oneS]
 congr 1
 simp only [not_true_eq_false,false_and,true_and,List.mem_cons,List.not_mem_nil,or_false,exists_eq_or_imp,exists_eq_left,forall_eq_or_imp,forall_eq,false_or]at he
 unfold lsErr
 rw [if_neg (by omega)]
 rcases he with⟨h,rfl⟩|⟨h,rfl⟩
 ·rw [if_pos (by omega)]
 ·rw [if_neg (by omega)]
theorem ranks_ok (l:Ln) (hl:LL l) (hk:l.k=2):Ctr Tryz.prog 162 [.agg [],lv l] [] (fun r o=>o=[]∧r=i64 (lsErr l)):=by
 refine fI 0 Tryz.func162 ?_
 (repeat' (conv=>whnf);first|refine LitOb.ful ?_|refine aC ?_ ?_<;>intro _|refine z1_Ks ?_|(refine CallOb.mk [] (lists_ok True [l.w,l.s] (by simp) (fun u hu=>by simp only [List.mem_cons,List.not_mem_nil,or_false]at hu;rcases hu with rfl|rfl;exact hl.w;exact hl.s)) rfl ⟨Imp.bl (by simp),Imp.fulp rfl,trivial⟩ rfl rfl ?_;rintro _ _ ⟨e,he,rfl,rfl⟩)|fail);all_goals try (conv=>whnf)
 refine⟨rfl,?_⟩
 simp only [oneS]
 congr 1
 simp only [not_true_eq_false,false_and,true_and,List.mem_cons,List.not_mem_nil,or_false,exists_eq_or_imp,exists_eq_left,forall_eq_or_imp,forall_eq,false_or]at he
 unfold lsErr
 rw [if_neg (by omega)]
 rcases he with⟨h,rfl⟩|⟨h,rfl⟩
 ·rw [if_pos (by omega)]
 ·rw [if_neg (by omega)]
theorem z2_N3 {G H:Prop} (k:H) (h:H→G:=by first|exact fun r=>aS r|exact fun r=>aG r|exact fun r=>aD r|exact fun r=>aH r|exact fun r=>aP_Ks r|exact fun r=>aI r|exact fun r=>aJ r|exact fun r=>aW (.qs [0,1,2,3,4,5,6,7,8,11,12] (.l 9 [12] (.qs [10] (.l 13 [] (.l 14 [] (.qs [15] .nil) .no) .no)) (.l 13 [8,4,1] (.l 9 [] (.qs [10] (.l 14 [] (.qs [15] .nil) .no)) .no) .no))) r):G:=h k
theorem robin_ok (l:Ln) (hl:LL l) (hk:l.k=3) (hn:1≤l.n∧l.n≤6):Ctr Tryz.prog 165 [.agg [],lv l] [] (fun r o=>o=[]∧r=i64 (lsErr l)):=by
 refine fI 0 Tryz.func165 ?_
 have hw:=hl.w
 have hs:=hl.s
 have hlw:=ints_len l.w
 have hls:=ints_len l.s
 have key:∀e:Int,(¬((l.w.length:Int)=l.n∧inR l.w 1 20)∧e=2∨((l.w.length:Int)=l.n∧inR l.w 1 20)∧(∃u∈[l.s],u.length≠0)∧e=6∨((l.w.length:Int)=l.n∧inR l.w 1 20)∧(∀u∈[l.s],u.length=0)∧e=0)→e=lsErr l:=by
  intro e he
  simp only [List.mem_cons,List.not_mem_nil,or_false,exists_eq_left,forall_eq]at he
  unfold lsErr
  rcases he with⟨h,rfl⟩|⟨h,h2,rfl⟩|⟨h,h2,rfl⟩
  ·rw [if_pos (by exact .inl ⟨hk,h⟩)]
  ·rw [if_neg (by rintro(⟨h3,h4⟩|⟨h3,h4⟩|⟨h3,h4⟩)<;>first|omega|exact h4 h),if_pos (by omega)]
  ·rw [if_neg (by rintro(⟨h3,h4⟩|⟨h3,h4⟩|⟨h3,h4⟩)<;>first|omega|exact h4 h),if_neg (by omega)]
 have hla:∀u∈[l.s],u.length≤9223372036854775807:=fun u hu=>by simp only [List.mem_cons,List.not_mem_nil,or_false]at hu;rw [hu];exact hl.s
 (repeat' (conv=>whnf);first|refine LitOb.ful ?_|refine aC ?_ ?_<;>intro<;>try omega|refine z2_N3 ?_|(refine aK [] (within_ok l.w hl.w 1 20) ?_)|(refine CallOb.mk [] (lists_ok ((l.w.length:Int)=l.n∧inR l.w 1 20) [l.s] (by simp) hla) rfl ⟨Imp.bp ⟨fun h=>⟨by omega,h⟩,fun h=>h.2⟩,Imp.fulp rfl,trivial⟩ rfl rfl ?_;rintro _ _ ⟨e,he,rfl,rfl⟩)|(refine CallOb.mk [] (lists_ok ((l.w.length:Int)=l.n∧inR l.w 1 20) [l.s] (by simp) hla) rfl ⟨Imp.bl ⟨fun h=>(by cases h),fun h=>absurd h (fun h=>by omega)⟩,Imp.fulp rfl,trivial⟩ rfl rfl ?_;rintro _ _ ⟨e,he,rfl,rfl⟩)|refine And.intro ?_ ?_|fail);all_goals try (conv=>whnf)
 all_goals first
  |rfl
  |(simp only [oneS];rw [key _ he])
  |trace_state
theorem deficits_ok (l:Ln) (hl:LL l) (hk:l.k=4) (hn:1≤l.n∧l.n≤6):Ctr Tryz.prog 172 [.agg [],lv l] [] (fun r o=>o=[]∧r=i64 (lsErr l)):=by
 refine fI 0 Tryz.func172 ?_
 have hw:=hl.w
 have hs:=hl.s
 have hlw:=ints_len l.w
 have hls:=ints_len l.s
 have key:∀e:Int,(¬((l.w.length:Int)=l.n∧inR l.w 1 6000)∧e=2∨((l.w.length:Int)=l.n∧inR l.w 1 6000)∧(∃u∈[l.s],u.length≠0)∧e=6∨((l.w.length:Int)=l.n∧inR l.w 1 6000)∧(∀u∈[l.s],u.length=0)∧e=0)→e=lsErr l:=by
  intro e he
  simp only [List.mem_cons,List.not_mem_nil,or_false,exists_eq_left,forall_eq]at he
  unfold lsErr
  rcases he with⟨h,rfl⟩|⟨h,h2,rfl⟩|⟨h,h2,rfl⟩
  ·rw [if_pos (by exact .inr (.inl ⟨hk,h⟩))]
  ·rw [if_neg (by rintro(⟨h3,h4⟩|⟨h3,h4⟩|⟨h3,h4⟩)<;>first|omega|exact h4 h),if_pos (by omega)]
  ·rw [if_neg (by rintro(⟨h3,h4⟩|⟨h3,h4⟩|⟨h3,h4⟩)<;>first|omega|exact h4 h),if_neg (by omega)]
 have hla:∀u∈[l.s],u.length≤9223372036854775807:=fun u hu=>by simp only [List.mem_cons,List.not_mem_nil,or_false]at hu;rw [hu];exact hl.s
 (repeat' (conv=>whnf);first|refine LitOb.ful ?_|refine aC ?_ ?_<;>intro<;>try omega|refine z2_N3 ?_|(refine aK [] (within_ok l.w hl.w 1 6000) ?_)|(refine CallOb.mk [] (lists_ok ((l.w.length:Int)=l.n∧inR l.w 1 6000) [l.s] (by simp) hla) rfl ⟨Imp.bp ⟨fun h=>⟨by omega,h⟩,fun h=>h.2⟩,Imp.fulp rfl,trivial⟩ rfl rfl ?_;rintro _ _ ⟨e,he,rfl,rfl⟩)|(refine CallOb.mk [] (lists_ok ((l.w.length:Int)=l.n∧inR l.w 1 6000) [l.s] (by simp) hla) rfl ⟨Imp.bl ⟨fun h=>(by cases h),fun h=>absurd h (fun h=>by omega)⟩,Imp.fulp rfl,trivial⟩ rfl rfl ?_;rintro _ _ ⟨e,he,rfl,rfl⟩)|refine And.intro ?_ ?_|fail);all_goals try (conv=>whnf)
 all_goals first
  |rfl
  |(simp only [oneS];rw [key _ he])
  |trace_state
theorem z3_N3 {G H:Prop} (k:H) (h:H→G:=by first|exact fun r=>aS r|exact fun r=>aG r|exact fun r=>aD r|exact fun r=>aH r|exact fun r=>aP_Ks r|exact fun r=>aI r|exact fun r=>aJ r|exact fun r=>aW (.qs [0,1,2,3,4,5,6,7,8,9,10,11,12,13,14,15,18,19] (.l 16 [19] (.qs [17] (.l 20 [] (.l 21 [] (.qs [22] .nil) .no) .no)) (.l 20 [14,12,6,1] (.l 16 [] (.qs [17] (.l 21 [] (.qs [22] .nil) .no)) .no) .no))) r):G:=h k
theorem ntimes_ok (l:Ln) (hl:LL l) (hk:l.k=5) (hn:1≤l.n∧l.n≤6):Ctr Tryz.prog 175 [.agg [],lv l] [] (fun r o=>o=[]∧r=i64 (lsErr l)):=by
 refine fI 0 Tryz.func175 ?_
 have hw:=hl.w
 have hs:=hl.s
 have hlw:=ints_len l.w
 have hls:=ints_len l.s
 have key:∀e:Int,(¬(1≤l.s.length∧l.s.length≤40∧inR l.s (-1) (l.n-1))∧e=2∨(1≤l.s.length∧l.s.length≤40∧inR l.s (-1) (l.n-1))∧(∃u∈[l.w],u.length≠0)∧e=6∨(1≤l.s.length∧l.s.length≤40∧inR l.s (-1) (l.n-1))∧(∀u∈[l.w],u.length=0)∧e=0)→e=lsErr l:=by
  intro e he
  simp only [List.mem_cons,List.not_mem_nil,or_false,exists_eq_left,forall_eq]at he
  unfold lsErr
  rcases he with⟨h,rfl⟩|⟨h,h2,rfl⟩|⟨h,h2,rfl⟩
  ·rw [if_pos (by exact .inr (.inr ⟨hk,h⟩))]
  ·rw [if_neg (by rintro(⟨h3,h4⟩|⟨h3,h4⟩|⟨h3,h4⟩)<;>first|omega|exact h4 h),if_pos (by omega)]
  ·rw [if_neg (by rintro(⟨h3,h4⟩|⟨h3,h4⟩|⟨h3,h4⟩)<;>first|omega|exact h4 h),if_neg (by omega)]
 have hla:∀u∈[l.w],u.length≤9223372036854775807:=fun u hu=>by simp only [List.mem_cons,List.not_mem_nil,or_false]at hu;rw [hu];exact hl.w
 (repeat' (conv=>whnf);first|refine LitOb.ful ?_|refine aC ?_ ?_<;>intro<;>try omega|refine z3_N3 ?_|(refine aK [] (within_ok l.s hl.s (-1) (l.n-1)) ?_)|(refine CallOb.mk [] (lists_ok (1≤l.s.length∧l.s.length≤40∧inR l.s (-1) (l.n-1)) [l.w] (by simp) hla) rfl ⟨Imp.bp ⟨fun h=>⟨by omega,by omega,h⟩,fun h=>h.2.2⟩,Imp.fulp rfl,trivial⟩ rfl rfl ?_;rintro _ _ ⟨e,he,rfl,rfl⟩)|(refine CallOb.mk [] (lists_ok (1≤l.s.length∧l.s.length≤40∧inR l.s (-1) (l.n-1)) [l.w] (by simp) hla) rfl ⟨Imp.bl ⟨fun h=>(by cases h),fun h=>absurd h (fun h=>by omega)⟩,Imp.fulp rfl,trivial⟩ rfl rfl ?_;rintro _ _ ⟨e,he,rfl,rfl⟩)|refine And.intro ?_ ?_|fail);all_goals try (conv=>whnf)
 all_goals first
  |rfl
  |(simp only [oneS];rw [key _ he])
  |trace_state
end
section
open Go.Sx Go.Np
theorem lk_cons {k a:Int} {v:SV} {l:List (Int×SV)}:List.lookup k ((a,v)::l)=if k=a then some v else List.lookup k l:=by
 by_cases h:k=a
 ·subst h;simp [List.lookup]
 ·rw [if_neg h]
  have:(k==a)=false:=by simp [h]
  simp only [List.lookup,this]
theorem kind_ok (k:Int):Ctr Tryz.prog 124 [i64 k] [] (fun r o=>∃s:SV×Bool,((k<1∨5<k)∧s=(.raw .nilIface,false)∨k=1∧s=(.ifc 154 (.agg []),true)∨k=2∧s=(.ifc 155 (.agg []),true)∨k=3∧s=(.ifc 156 (.agg []),true)∨k=4∧s=(.ifc 157 (.agg []),true)∨k=5∧s=(.ifc 158 (.agg []),true))∧o=[]∧r= .tup [s.1, .bl s.2]):=by
 refine fI 0 Tryz.func124 ?_
 (repeat' (conv=>whnf);first|refine aC ?_ ?_<;>intro _|refine z1_Ks ?_|refine PutOb.mk (fun h=>absurd rfl h) (fun _=>?_)|fail);all_goals try (conv=>whnf)
 refine MapOb.mk (fun v hv=>?_) (fun hv=>?_)
 all_goals simp only [List.nil_append,List.cons_append,lk_cons,List.lookup_nil]at hv
 ·repeat' (split at hv)
  all_goals first
   |(cases hv;done)
   |(injection hv with hv;subst hv)
  all_goals
   subst k
   (repeat' (conv=>whnf);first|refine aC ?_ ?_<;>intro _|refine z1_Ks ?_|refine PutOb.mk (fun h=>absurd rfl h) (fun _=>?_)|fail);all_goals try (conv=>whnf)
   exact⟨(_,true),by simp,rfl,rfl⟩
 ·have hk:k<1∨5<k:=by
   repeat' (split at hv)
   all_goals first
    |(cases hv;done)
    |omega
  (repeat' (conv=>whnf);first|refine aC ?_ ?_<;>intro _|refine z1_Ks ?_|fail);all_goals try (conv=>whnf)
  exact⟨(_,false), .inl ⟨hk,rfl⟩,rfl,rfl⟩
theorem lCheck_ok (l:Ln) (hl:LL l):Ctr Tryz.prog 84 [lv l] [] (fun r o=>o=[]∧r=i64 (lnErr l)):=by
 refine fI 0 Tryz.func84 ?_
 (repeat' (conv=>whnf);first|refine aC ?_ ?_<;>intro _|refine z1_Ks ?_|fail);all_goals try (conv=>whnf)
 refine aM [] (kind_ok l.k) rfl rfl ?_
 rintro _ _ ⟨⟨s,b⟩,hs,rfl,rfl⟩
 dsimp only at hs⊢
 have rng:∀{e:Int},1≤l.k∧l.k≤5→(1≤l.c∧l.c≤4000∧1≤l.n∧l.n≤6)→e=lsErr l→e=lnErr l:=fun h1 h2 h3=>by
  unfold lnErr;rw [if_neg (by omega),if_neg (by omega)];exact h3
 rcases hs with⟨hk,hs⟩|⟨hk,hs⟩|⟨hk,hs⟩|⟨hk,hs⟩|⟨hk,hs⟩|⟨hk,hs⟩
 ·cases hs
  (repeat' (conv=>whnf);first|refine aC ?_ ?_<;>intro _|refine z1_Ks ?_|fail);all_goals try (conv=>whnf)
  exact⟨rfl,by unfold lnErr;rw [if_pos hk];rfl⟩
 ·cases hs
  (repeat' (conv=>whnf);first|refine aC ?_ ?_<;>intro<;>try omega|refine z1_Ks ?_|refine InvOb.mk 158 (by decide+kernel) ?_|(refine aK [] (fifo_ok l hl hk) ?_)|fail);all_goals try (conv=>whnf)
  all_goals first
   |exact⟨rfl,by unfold lnErr;rw [if_neg (by omega),if_pos (by omega)];rfl⟩
   |exact⟨rfl,by unfold lnErr;rw [if_neg (by omega),if_neg (by omega)];rfl⟩
   |trace_state
 ·cases hs
  (repeat' (conv=>whnf);first|refine aC ?_ ?_<;>intro<;>try omega|refine z1_Ks ?_|refine InvOb.mk 162 (by decide+kernel) ?_|(refine aK [] (ranks_ok l hl hk) ?_)|fail);all_goals try (conv=>whnf)
  all_goals first
   |exact⟨rfl,by unfold lnErr;rw [if_neg (by omega),if_pos (by omega)];rfl⟩
   |exact⟨rfl,by unfold lnErr;rw [if_neg (by omega),if_neg (by omega)];rfl⟩
   |trace_state
 ·cases hs
  (repeat' (conv=>whnf);first|refine aC ?_ ?_<;>intro<;>try omega|refine z1_Ks ?_|refine InvOb.mk 165 (by decide+kernel) ?_|(refine aK [] (robin_ok l hl hk (by omega)) ?_)|fail);all_goals try (conv=>whnf)
  all_goals first
   |exact⟨rfl,by unfold lnErr;rw [if_neg (by omega),if_pos (by omega)];rfl⟩
   |exact⟨rfl,by unfold lnErr;rw [if_neg (by omega),if_neg (by omega)];rfl⟩
   |trace_state
 ·cases hs
  (repeat' (conv=>whnf);first|refine aC ?_ ?_<;>intro<;>try omega|refine z1_Ks ?_|refine InvOb.mk 172 (by decide+kernel) ?_|(refine aK [] (deficits_ok l hl hk (by omega)) ?_)|fail);all_goals try (conv=>whnf)
  all_goals first
   |exact⟨rfl,by unfold lnErr;rw [if_neg (by omega),if_pos (by omega)];rfl⟩
   |exact⟨rfl,by unfold lnErr;rw [if_neg (by omega),if_neg (by omega)];rfl⟩
   |trace_state
 ·cases hs
  (repeat' (conv=>whnf);first|refine aC ?_ ?_<;>intro<;>try omega|refine z1_Ks ?_|refine InvOb.mk 175 (by decide+kernel) ?_|(refine aK [] (ntimes_ok l hl hk (by omega)) ?_)|fail);all_goals try (conv=>whnf)
  all_goals first
   |exact⟨rfl,by unfold lnErr;rw [if_neg (by omega),if_pos (by omega)];rfl⟩
   |exact⟨rfl,by unfold lnErr;rw [if_neg (by omega),if_neg (by omega)];rfl⟩
   |trace_state
end
end Go.Proofs.YtbcjojomkibgeaaGreat
