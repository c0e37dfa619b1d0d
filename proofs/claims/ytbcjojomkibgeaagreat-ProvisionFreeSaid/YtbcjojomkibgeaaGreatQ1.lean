/- Lemmas of this seat. Conditions: as stated. -/
import Derived.Test.YtbcjojomkibgeaaGreatP3
import Derived.Test.YtbcjojomkibgeaaGreatPl
set_option linter.unusedVariables false
set_option linter.unusedSimpArgs false
set_option maxHeartbeats 2000000
set_option maxRecDepth 4000
namespace Go.Proofs.YtbcjojomkibgeaaGreat
open Go.Sx Go.Fq Go.Dt
abbrev tab (N k w n m:Nat) (f:Nat→Nat→Int) (bs tu sl:Nat→Int) (d co:Int) (ov:Prop):List Chunk:=
 [.box [.vec 1,i64 d, .vec 2, .vec 3, .vec 4,i64 co,i64 n,i64 m, .bp ov], .mat 1 (mts N w f), .vec 1 (vcs k bs), .vec 1 (vcs k tu), .vec 1 (vcs k sl)]
theorem b62_0:B62 0:=by decide
theorem tab_ov {N k w n m:Nat} {f:Nat→Nat→Int} {bs tu sl:Nat→Int} {d co:Int}:OI [.box [.vec 1,i64 d, .vec 2, .vec 3, .vec 4,i64 co,i64 n,i64 m, .bl true], .mat 1 (mts N w f), .vec 1 (vcs k bs), .vec 1 (vcs k tu), .vec 1 (vcs k sl)] (tab N k w n m f bs tu sl d co True):=
 ⟨⟨Imp.refl _,Imp.refl _,Imp.refl _,Imp.refl _,Imp.refl _,Imp.refl _,Imp.refl _,Imp.refl _,Imp.bl (by simp),trivial⟩,rfl,rfl,rfl,rfl,trivial⟩
theorem tab_of {N k w n m:Nat} {f:Nat→Nat→Int} {bs tu sl:Nat→Int} {d co:Int}:OI [.box [.vec 1,i64 d, .vec 2, .vec 3, .vec 4,i64 co,i64 n,i64 m, .bl false], .mat 1 (mts N w f), .vec 1 (vcs k bs), .vec 1 (vcs k tu), .vec 1 (vcs k sl)] (tab N k w n m f bs tu sl d co False):=
 ⟨⟨Imp.refl _,Imp.refl _,Imp.refl _,Imp.refl _,Imp.refl _,Imp.refl _,Imp.refl _,Imp.refl _,Imp.bl (by simp),trivial⟩,rfl,rfl,rfl,rfl,trivial⟩
theorem Ctr.pre {P:Program} {f:Nat} {args:List SV} {own own':List Chunk} {post:SV→List Chunk→Prop} (c:Ctr P f args own post) (h:OI own' own):Ctr P f args own' post:=
 ⟨c.1,fun w σ β vs h1 h2=>c.2 w σ β vs (h1.impO h) h2⟩
theorem mul_ok (N k w n m:Nat) (f:Nat→Nat→Int) (bs tu sl:Nat→Int) (d co:Int) (ov:Prop) (a b:Int) (ha:B62 a) (hb:B62 b):
  Ctr Tryz.prog 120 [.ptr 0 0,i64 a,i64 b] (tab N k w n m f bs tu sl d co ov) (fun r o=>∃x:Prop×Int,Cal ov x.1 (a*b) x.2∧o=tab N k w n m f bs tu sl d co x.1∧r=i64 x.2):=by
 refine Ctr.impO ?_
 refine fI 5 Tryz.func120 ?_
 have h1:=mulw_bd ha hb
 have h2:=mulw_ex (a:=a) hb
 have h3:=mulw_fit (a:=a) (b:=b)
 have hz:a=0∨b=0→a*b=0:=fun h=>by rcases h with h|h<;>subst h<;>simp
 have hw:=Go.IntKind.wrap_i64 (a*b)
 generalize hc:Go.IntKind.i64.wrap (a*b)=c at*
 generalize hP:a*b=P at*
 (repeat' (conv=>whnf);first|refine⟨by assumption,?_⟩|(refine ArOb.wraps ?_;rw [hP,hc])|refine aC ?_ ?_<;>intro<;>try omega|refine z1_F1 ?_|fail);all_goals try (conv=>whnf)
 ·have h0:=hz (.inl (by assumption))
  exact⟨(ov,0),⟨fun h=>⟨h,h0.symm⟩,fun _ h=>h,b62_0⟩,OI.refl _,Imp.refl _⟩
 ·have h0:=hz (.inr (by assumption))
  exact⟨(ov,0),⟨fun h=>⟨h,h0.symm⟩,fun _ h=>h,b62_0⟩,OI.refl _,Imp.refl _⟩
 all_goals
  have hb0:b≠0:=by assumption
  have h1:=h1 hb0
  have h2:=h2 hb0
  have h3:=h3 hb0
 ·exact⟨(True,0),⟨fun h=>absurd trivial h,fun hf _=>absurd (by obtain⟨e1,e2⟩:=h3 hf;rw [e1];exact e2) (by assumption:c.tdiv b≠a),b62_0⟩,tab_ov,Imp.refl _⟩
 ·exact⟨(True,0),⟨fun h=>absurd trivial h,fun hf _=>by have:=h3 hf;exfalso;omega,b62_0⟩,tab_ov,Imp.refl _⟩
 ·exact⟨(True,0),⟨fun h=>absurd trivial h,fun hf _=>by have:=h3 hf;exfalso;omega,b62_0⟩,tab_ov,Imp.refl _⟩
 ·exact⟨(ov,c),⟨fun h=>⟨h,h2 (Classical.not_not.1 (by assumption))⟩,fun _ h=>h,by show B62 c;omega⟩,OI.refl _,Imp.refl _⟩
theorem sub_ok (N k w n m:Nat) (f:Nat→Nat→Int) (bs tu sl:Nat→Int) (d co:Int) (ov:Prop) (a b:Int) (ha:B62 a) (hb:B62 b):
  Ctr Tryz.prog 138 [.ptr 0 0,i64 a,i64 b] (tab N k w n m f bs tu sl d co ov) (fun r o=>∃x:Prop×Int,Cal ov x.1 (a-b) x.2∧o=tab N k w n m f bs tu sl d co x.1∧r=i64 x.2):=by
 refine Ctr.impO ?_
 refine fI 5 Tryz.func138 ?_
 have hw:=Go.IntKind.wrap_i64 (a-b)
 generalize hc:Go.IntKind.i64.wrap (a-b)=c at*
 (repeat' (conv=>whnf);first|(refine ArOb.wraps ?_;rw [hc])|refine aC ?_ ?_<;>intro<;>try omega|refine z1_F1 ?_|fail);all_goals try (conv=>whnf)
 all_goals first
  |exact⟨(True,0),⟨fun h=>absurd trivial h,fun hf _=>by exfalso;omega,b62_0⟩,tab_ov,Imp.refl _⟩
  |exact⟨(ov,c),⟨fun h=>⟨h,by dsimp only;omega⟩,fun _ h=>h,by show B62 c;omega⟩,OI.refl _,Imp.refl _⟩
end Go.Proofs.YtbcjojomkibgeaaGreat
