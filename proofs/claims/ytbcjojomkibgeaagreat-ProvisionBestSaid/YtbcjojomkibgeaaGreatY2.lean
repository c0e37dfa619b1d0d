/- Lemmas of this seat. Conditions: as stated. -/
import Derived.Test.YtbcjojomkibgeaaGreatPv
set_option linter.unusedVariables false
set_option linter.unusedSimpArgs false
set_option maxHeartbeats 2000000
set_option maxRecDepth 4000
namespace Go.Proofs.YtbcjojomkibgeaaGreat
open Go.Sx Go.Fq Go.Np Go.Pv
theorem aP_Y2 {A B K:Prop} (k:K) (a:A:=by(simp only [zA,zT,zD,zC,zN,ints_len,zR,fr_len,crow_len];omega)) (b:B:=by(simp only [zA,zT,zD,zC,zN,ints_len,zR,fr_len,crow_len];omega)):(A∧B)∧K:=⟨⟨a,b⟩,k⟩
theorem z1_Y2 {G H:Prop} (k:H) (h:H→G:=by first|exact fun r=>aS r|exact fun r=>aG r|exact fun r=>aD r|exact fun r=>aH r|exact fun r=>aP_Y2 r|exact fun r=>aI r|exact fun r=>aJ r):G:=h k
theorem pWhole_ok (x:Int):Ctr Tryz.prog 37 [i64 x] [] (fun r o=>o=[]∧r= .agg [i64 x,i64 1]):=by
 refine Ctr.imp ?_
 refine fI 0 Tryz.func37 ?_
 (repeat' (conv=>whnf);first|refine aC ?_ ?_<;>intro _|refine z1_Y2 ?_|fail);all_goals try (conv=>whnf)
 exact⟨rfl,Imp.refl _⟩
theorem pHops_ok (n:Nt) (hn:NL n) (f i:Nat):Ctr Tryz.prog 40 [i64 f, .pptr [.psl 1 (strs n.nm), .psl 5 (lns n.ln), .psl 8 (fls n.fl)], .pptr [i64 i]] [] (fun r o=>o=[]∧r= .bp (hops n i f=true)):=by
 refine Ctr.imp ?_
 refine fI 0 Tryz.func40 ?_
 have cH:=Hop_ok n hn f i
 (repeat' (conv=>whnf);first|refine aC ?_ ?_<;>intro _|refine z1_Y2 ?_|(refine aK [] cH ?_)|fail);all_goals try (conv=>whnf)
 exact⟨rfl,Imp.bp (by simp [hops])⟩
theorem pAlon_ok (f i:Nat):Ctr Tryz.prog 42 [i64 f, .pptr [i64 i]] [] (fun r o=>o=[]∧r= .bp (alon i f=true)):=by
 refine Ctr.imp ?_
 refine fI 0 Tryz.func42 ?_
 (repeat' (conv=>whnf);first|refine aC ?_ ?_<;>intro _|refine z1_Y2 ?_|fail);all_goals try (conv=>whnf)
 exact⟨rfl,Imp.bp (by simp only [alon,decide_eq_true_eq];omega)⟩
theorem z3_Y2 {G H:Prop} (k:H) (h:H→G:=by first|exact fun r=>aS r|exact fun r=>aG r|exact fun r=>aD r|exact fun r=>aH r|exact fun r=>aP_Y2 r|exact fun r=>aI r|exact fun r=>aJ r|exact fun r=>aW (.qs [0,1,2,3] (.l 4 [1] (.l 5 [1] (.l 6 [] (.qs [7] (.l 8 [] .nil .no)) .no) .no) .no)) r):G:=h k
theorem z2_Y2 {G H:Prop} (k:H) (h:H→G:=by first|exact fun r=>aS r|exact fun r=>aG r|exact fun r=>aD r|exact fun r=>aP_Y2 r|exact fun r=>aI r|exact fun r=>aJ r|exact fun r=>aW (.qs [0,1,2,3] (.l 4 [1] (.l 5 [1] (.l 6 [] (.qs [7] (.l 8 [] .nil .no)) .no) .no) .no)) r):G:=h k
theorem pRow2_ok (l:List Dm) (hl:l.length≤1000) (g:Nat) (c1 c2:SV) (c:Nat→Bool) (s b:Int)
  (hg:∀j:Nat,j<l.length→Ctr Tryz.prog g [i64 j,c1,c2] [] (fun r o=>o=[]∧r= .bp (c j=true))):
  Ctr Tryz.prog 38 [.fn g [.shut c1, .shut c2],i64 s,i64 b, .pptr [.fn 37 []], .pptr [dml l]] [] (fun r o=>o=[]∧r= .agg (rwv (crow c l.length,s,(b,1)))):=by
 refine Ctr.imp ?_
 refine fI 0 Tryz.func38 ?_
 have cW:=pWhole_ok b
 have c0:=pWhole_ok 0
 have c1':=pWhole_ok 1
 have hll:=dml_len l
 (repeat' (conv=>whnf);first|refine aC ?_ ?_<;>intro<;>try omega|refine z2_Y2 ?_|fail);all_goals try (conv=>whnf)
 refine .mk [] ?_
 (repeat' (conv=>whnf);first|refine aC ?_ ?_<;>intro<;>try omega|refine z2_Y2 ?_|fail);all_goals try (conv=>whnf)
 refine aK [] cW ?_
 (repeat' (conv=>whnf);first|refine aC ?_ ?_<;>intro<;>try omega|refine z2_Y2 ?_|fail);all_goals try (conv=>whnf)
 refine .mk [.nb 1 0 2] ?_
 refine LoopOb.mk (Y:=Nat) (st:=fun i=>⟨[(19,i64 i),(18,i64 l.length),(17,dml l),(9, .ptr 1 0),(8, .ptr 0 0),(0, .fn g [.shut c1, .shut c2]),(3, .pptr [.fn 37 []]),(4, .pptr [dml l])],[.box [.nil,i64 0,i64 0,i64 0], .box [.vec 2,i64 s,i64 b,i64 1], .vec 2 (fr2 (crow c i))]⟩)
  (inv:=fun i=>i≤l.length) (fun i=>l.length-i) 0 [0,1,2] (by omega) (by rw [hll];(exact aL)) ?_
 intro i hi
 have hcl:=crow_len (c:=c) (k:=i)
 (repeat' (conv=>whnf);first|refine z3_Y2 ?_|fail);all_goals try (conv=>whnf)
 refine CondOb.mk (fun hlt=>?_) (fun hlt=>?_)
 ·have hil:i<l.length:=by omega
  have cG:=hg i hil
  have hcs:=crow_succ (c:=c) (k:=i)
  generalize c i=ci at*
  (repeat' (conv=>whnf);first|refine aC ?_ ?_<;>intro<;>try omega|refine z3_Y2 ?_|(refine CallOb.mk [] cG rfl ⟨Imp.refl _,Imp.unshut _,Imp.unshut _,trivial⟩ rfl rfl ?_;rintro _ _ ⟨rfl,rfl⟩)|(refine aK [] c1' ?_)|(refine aK [] c0 ?_)|fail);all_goals try (conv=>whnf)
  ·exact⟨i+1,[0,1,4],by omega,by omega,by rw [hcs, ‹ci=true›,fr2_append];(exact aL)⟩
  ·have e:ci=false:=by simpa using ‹¬ci=true›
   exact⟨i+1,[0,1,4],by omega,by omega,by rw [hcs,e,fr2_append];(exact aL)⟩
 ·have e:i=l.length:=by omega
  subst e
  (repeat' (conv=>whnf);first|refine aC ?_ ?_<;>intro _|refine z2_Y2 ?_|fail);all_goals try (conv=>whnf)
  refine .mk [.fz 2] ?_
  (repeat' (conv=>whnf);first|refine aC ?_ ?_<;>intro _|refine z2_Y2 ?_|fail);all_goals try (conv=>whnf)
  exact⟨rfl,Imp.refl _⟩
theorem pRow1_ok (l:List Dm) (hl:l.length≤1000) (g:Nat) (c1:SV) (c:Nat→Bool) (s b:Int)
  (hg:∀j:Nat,j<l.length→Ctr Tryz.prog g [i64 j,c1] [] (fun r o=>o=[]∧r= .bp (c j=true))):
  Ctr Tryz.prog 38 [.fn g [.shut c1],i64 s,i64 b, .pptr [.fn 37 []], .pptr [dml l]] [] (fun r o=>o=[]∧r= .agg (rwv (crow c l.length,s,(b,1)))):=by
 refine Ctr.imp ?_
 refine fI 0 Tryz.func38 ?_
 have cW:=pWhole_ok b
 have c0:=pWhole_ok 0
 have c1':=pWhole_ok 1
 have hll:=dml_len l
 (repeat' (conv=>whnf);first|refine aC ?_ ?_<;>intro<;>try omega|refine z2_Y2 ?_|fail);all_goals try (conv=>whnf)
 refine .mk [] ?_
 (repeat' (conv=>whnf);first|refine aC ?_ ?_<;>intro<;>try omega|refine z2_Y2 ?_|fail);all_goals try (conv=>whnf)
 refine aK [] cW ?_
 (repeat' (conv=>whnf);first|refine aC ?_ ?_<;>intro<;>try omega|refine z2_Y2 ?_|fail);all_goals try (conv=>whnf)
 refine .mk [.nb 1 0 2] ?_
 refine LoopOb.mk (Y:=Nat) (st:=fun i=>⟨[(19,i64 i),(18,i64 l.length),(17,dml l),(9, .ptr 1 0),(8, .ptr 0 0),(0, .fn g [.shut c1]),(3, .pptr [.fn 37 []]),(4, .pptr [dml l])],[.box [.nil,i64 0,i64 0,i64 0], .box [.vec 2,i64 s,i64 b,i64 1], .vec 2 (fr2 (crow c i))]⟩)
  (inv:=fun i=>i≤l.length) (fun i=>l.length-i) 0 [0,1,2] (by omega) (by rw [hll];(exact aL)) ?_
 intro i hi
 have hcl:=crow_len (c:=c) (k:=i)
 (repeat' (conv=>whnf);first|refine z3_Y2 ?_|fail);all_goals try (conv=>whnf)
 refine CondOb.mk (fun hlt=>?_) (fun hlt=>?_)
 ·have hil:i<l.length:=by omega
  have cG:=hg i hil
  have hcs:=crow_succ (c:=c) (k:=i)
  generalize c i=ci at*
  (repeat' (conv=>whnf);first|refine aC ?_ ?_<;>intro<;>try omega|refine z3_Y2 ?_|(refine CallOb.mk [] cG rfl ⟨Imp.refl _,Imp.unshut _,trivial⟩ rfl rfl ?_;rintro _ _ ⟨rfl,rfl⟩)|(refine aK [] c1' ?_)|(refine aK [] c0 ?_)|fail);all_goals try (conv=>whnf)
  ·exact⟨i+1,[0,1,4],by omega,by omega,by rw [hcs, ‹ci=true›,fr2_append];(exact aL)⟩
  ·have e:ci=false:=by simpa using ‹¬ci=true›
   exact⟨i+1,[0,1,4],by omega,by omega,by rw [hcs,e,fr2_append];(exact aL)⟩
 ·have e:i=l.length:=by omega
  subst e
  (repeat' (conv=>whnf);first|refine aC ?_ ?_<;>intro _|refine z2_Y2 ?_|fail);all_goals try (conv=>whnf)
  refine .mk [.fz 2] ?_
  (repeat' (conv=>whnf);first|refine aC ?_ ?_<;>intro _|refine z2_Y2 ?_|fail);all_goals try (conv=>whnf)
  exact⟨rfl,Imp.refl _⟩
end Go.Proofs.YtbcjojomkibgeaaGreat
