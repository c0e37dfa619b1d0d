/- Lemmas of this seat. Conditions: as stated. -/
import Derived.Test.YtjhmjiimpmmnhaaGreatJ16b
set_option linter.unusedVariables false
set_option linter.unusedSimpArgs false
set_option maxHeartbeats 2000000
set_option maxRecDepth 4000
namespace Go.Proofs.YtjhmjiimpmmnhaaGreat
section
open Go.Sx Go.Cv Go.Gd Go.Np Go.Pk Go.St Go.Mc Go.Tp
abbrev f64:List SV:=[.bl false, .bl false, .bl false, .bl false, .bl false, .bl false, .bl false, .bl false, .bl false, .bl false, .bl false, .bl false, .bl false, .bl false, .bl false, .bl false, .bl false, .bl false, .bl false, .bl false, .bl false, .bl false, .bl false, .bl false, .bl false, .bl false, .bl false, .bl false, .bl false, .bl false, .bl false, .bl false, .bl false, .bl false, .bl false, .bl false, .bl false, .bl false, .bl false, .bl false, .bl false, .bl false, .bl false, .bl false, .bl false, .bl false, .bl false, .bl false, .bl false, .bl false, .bl false, .bl false, .bl false, .bl false, .bl false, .bl false, .bl false, .bl false, .bl false, .bl false, .bl false, .bl false, .bl false, .bl false]
theorem z2_J22 {G H:Prop} (k:H) (h:H→G:=by first|exact fun r=>aS r|exact fun r=>aG r|exact fun r=>aD r|exact fun r=>aP_R1 r|exact fun r=>aI r|exact fun r=>aJ r|exact fun r=>aW (.qs [0,1,2,3,4,5,6,7,8,9,10] (.l 11 [] .nil .no)) r):G:=h k
theorem z1_J22 {G H:Prop} (k:H) (h:H→G:=by first|exact fun r=>aS r|exact fun r=>aG r|exact fun r=>aD r|exact fun r=>aH r|exact fun r=>aP_R1 r|exact fun r=>aI r|exact fun r=>aJ r|exact fun r=>aW (.qs [0,1,2,3,4,5,6,7,8,9,10] (.l 11 [] .nil .no)) r):G:=h k
theorem TgH.edg {c z B:Int} (h:TgH c z B):Ctr Tryz.prog 88 [ntv (tN c z B)] [] (fun r o=>o=[]∧r= .psl 2 []):=by
 refine Ctr.imp ?_
 refine fI 0 Tryz.func88 ?_
 have cC:=rCheck_ok (tN c z B) TgH.nl
 rw [h.chk]at cC
 have hl:((lns (tN c z B).ln).length :Int)=1:=rfl
 have hf:((fls (tN c z B).fl).length :Int)=1:=rfl
 have hg:(fls (tN c z B).fl)[0]? =some (flv (l1F z [0,B] 1 0)):=rfl
 have hil:((ints [0]).length :Int)=1:=rfl
 (repeat' (conv=>whnf);first|refine aC ?_ ?_<;>intro<;>try omega|refine z1_J22 ?_|(refine aK [] (cC) ?_)|fail);all_goals try (conv=>whnf)
 all_goals try contradiction
 refine LoopOb.mk (Y:=Nat) (st:=fun i=>⟨[(4,i64 i),(3, .ptr 2 0),(2, .vec 1),(1, .ptr 0 0)],[.box [.psl 1 (strs (tN c z B).nm), .psl 5 (lns (tN c z B).ln), .psl 8 (fls (tN c z B).fl)], .vec 2 [], .box f64]⟩)
  (inv:=fun i=>i≤1) (fun i=>1-i) 0 [0,1,2] (by omega) (by(exact aL)) ?_
 rintro i hi
 rcases(show i=0∨i=1 by omega)with rfl|rfl
 ·(repeat' (conv=>whnf);first|refine⟨0,_,rfl,hg,?_⟩|refine aC ?_ ?_<;>intro<;>try omega|refine z1_J22 ?_|fail);all_goals try (conv=>whnf)
  refine LoopOb.mk (Y:=Unit) (st:=fun _=>⟨[(6,i64 1),(5, .psl 1 (ints [0])),(4,i64 0),(3, .ptr 2 0),(2, .vec 1),(1, .ptr 0 0)],[.box [.psl 1 (strs (tN c z B).nm), .psl 5 (lns (tN c z B).ln), .psl 8 (fls (tN c z B).fl)], .vec 2 [], .box f64]⟩)
   (inv:=fun _=>True) (fun _=>0) () [0,1,2] trivial (by(exact aL)) ?_
  rintro _ _
  (repeat' (conv=>whnf);first|refine aC ?_ ?_<;>intro<;>try omega|refine z1_J22 ?_|fail);all_goals try (conv=>whnf)
  all_goals exact⟨1,[0,1,2],by omega,by omega,by(exact aL)⟩
 ·(repeat' (conv=>whnf);first|refine aC ?_ ?_<;>intro<;>try omega|refine z1_J22 ?_|fail);all_goals try (conv=>whnf)
  refine LoopOb.mk (Y:=Nat) (st:=fun a=>⟨[(8,i64 a),(7, .vec 3),(3, .ptr 2 0),(2, .vec 1),(1, .ptr 0 0)],[.box [.psl 1 (strs (tN c z B).nm), .psl 5 (lns (tN c z B).ln), .psl 8 (fls (tN c z B).fl)], .vec 2 [], .box f64, .vec 2 []]⟩)
   (inv:=fun a=>a≤1) (fun a=>1-a) 0 [0,1,2,3] (by omega) (by(exact aL)) ?_
  rintro a ha
  rcases(show a=0∨a=1 by omega)with rfl|rfl
  ·(repeat' (conv=>whnf);first|refine aC ?_ ?_<;>intro<;>try omega|refine z1_J22 ?_|fail);all_goals try (conv=>whnf)
   refine LoopOb.mk (Y:=Nat) (st:=fun b=>⟨[(9,i64 b),(8,i64 0),(7, .vec 3),(3, .ptr 2 0),(2, .vec 1),(1, .ptr 0 0)],[.box [.psl 1 (strs (tN c z B).nm), .psl 5 (lns (tN c z B).ln), .psl 8 (fls (tN c z B).fl)], .vec 2 [], .box f64, .vec 2 []]⟩)
    (inv:=fun b=>b≤1) (fun b=>1-b) 0 [0,1,2,3] (by omega) (by(exact aL)) ?_
   rintro b hb
   rcases(show b=0∨b=1 by omega)with rfl|rfl
   ·(repeat' (conv=>whnf);first|refine⟨0,rfl,by omega,?_⟩|refine aC ?_ ?_<;>intro<;>try omega|refine z1_J22 ?_|fail);all_goals try (conv=>whnf)
    all_goals first
     |exact⟨1,[0,1,2,3],by omega,by omega,by(exact aL)⟩
     |trace_state
   ·(repeat' (conv=>whnf);first|refine aC ?_ ?_<;>intro<;>try omega|refine z1_J22 ?_|fail);all_goals try (conv=>whnf)
    all_goals exact⟨1,[0,1,2,3],by omega,by omega,by(exact aL)⟩
  ·(repeat' (conv=>whnf);first|refine aC ?_ ?_<;>intro<;>try omega|refine z2_J22 ?_|fail);all_goals try (conv=>whnf)
   refine .mk [.fz 3] ?_
   (repeat' (conv=>whnf);first|refine aC ?_ ?_<;>intro<;>try omega|refine z1_J22 ?_|fail);all_goals try (conv=>whnf)
   all_goals exact⟨rfl,Imp.refl _⟩
end
section
open Go.Sx Go.Cv Go.Gd Go.Np Go.Pk Go.St Go.Mc Go.Tp
theorem TgH.ord {c z B:Int} (h:TgH c z B):Ctr Tryz.prog 59 [ntv (tN c z B)] [] (fun r o=>o=[]∧r= .tup [.psl 1 (ints [0]), .bl true]):=by
 refine Ctr.imp ?_
 refine fI 0 Tryz.func59 ?_
 have cC:=rCheck_ok (tN c z B) TgH.nl
 rw [h.chk]at cC
 have cE:=h.edg
 have hl:((lns (tN c z B).ln).length :Int)=1:=rfl
 (repeat' (conv=>whnf);first|refine aC ?_ ?_<;>intro<;>try omega|refine z1_R1 ?_|refine⟨_,_,rfl,rfl,Nat.le_refl _,⟨by(simp only;omega),by omega⟩,?_⟩|(refine aK [] (cC) ?_)|(refine aK [] (cE) ?_)|fail);all_goals try (conv=>whnf)
 all_goals try contradiction
 refine LoopOb.mk (Y:=Nat) (st:=fun i=>⟨[(6, .vec 2),(5, .vec 1),(4, .psl 2 []),(1, .ptr 0 0)],[.box [.psl 1 (strs (tN c z B).nm), .psl 5 (lns (tN c z B).ln), .psl 8 (fls (tN c z B).fl)], .vec 1 [[.bl (i==1)]], .vec 1 (ints (if i=0 then []else [0]))]⟩)
  (inv:=fun i=>i≤1) (fun i=>1-i) 0 [0,2,3] (by omega) (by(exact aL)) ?_
 rintro i hi
 rcases(show i=0∨i=1 by omega)with rfl|rfl
 ·rw [if_pos rfl]
  have hn0:((ints []).length :Int)=0:=rfl
  have hb0:([[.bl false]]:List (List SV))[0]? =some [.bl false]:=rfl
  have hbl:([[.bl false]]:List (List SV)).length =1:=rfl
  (repeat' (conv=>whnf);first|refine aC ?_ ?_<;>intro<;>try omega|refine z1_R1 ?_|fail);all_goals try (conv=>whnf)
  refine LoopOb.mk (Y:=Nat) (st:=fun t=>⟨[(8,i64 (0-(t:Int))),(7,i64 (if t=0 then-1 else 0)),(6, .vec 2),(5, .vec 1),(4, .psl 2 []),(1, .ptr 0 0)],[.box [.psl 1 (strs (tN c z B).nm), .psl 5 (lns (tN c z B).ln), .psl 8 (fls (tN c z B).fl)], .vec 1 [[.bl false]], .vec 1 (ints [])]⟩)
   (inv:=fun t=>t≤1) (fun t=>1-t) 0 [0,1,2] (by omega) (by(exact aL)) ?_
  rintro t ht
  rcases(show t=0∨t=1 by omega)with rfl|rfl
  ·rw [if_pos rfl]
   (repeat' (conv=>whnf);first|refine⟨_,hb0,?_⟩|refine⟨0,by omega,by omega,?_⟩|refine aC ?_ ?_<;>intro<;>try omega|refine z1_R1 ?_|fail);all_goals try (conv=>whnf)
   refine LoopOb.mk (Y:=Unit) (st:=fun _=>⟨[(10,i64 0),(9, .bl true),(8,i64 0),(7,i64 (-1)),(6, .vec 2),(5, .vec 1),(4, .psl 2 []),(1, .ptr 0 0)],[.box [.psl 1 (strs (tN c z B).nm), .psl 5 (lns (tN c z B).ln), .psl 8 (fls (tN c z B).fl)], .vec 1 [[.bl false]], .vec 1 (ints [])]⟩)
    (inv:=fun _=>True) (fun _=>0) () [0,1,2] trivial (by(exact aL)) ?_
   rintro _ _
   have hzl:(([]:List (List SV)).length :Int)=0:=rfl
   (repeat' (conv=>whnf);first|refine aC ?_ ?_<;>intro<;>try omega|refine z1_R1 ?_|fail);all_goals try (conv=>whnf)
   all_goals first
    |exact⟨1,[0,1,2],by omega,by omega,by rw [if_neg (by decide)];(exact aL)⟩
    |trace_state
  ·rw [if_neg (by decide)]
   (repeat' (conv=>whnf);first|refine⟨_,hb0,?_⟩|refine⟨0,by omega,by omega,?_⟩|refine aC ?_ ?_<;>intro<;>try omega|refine z1_R1 ?_|fail);all_goals try (conv=>whnf)
   all_goals first
    |exact⟨1,[0,1,4],by omega,by omega,by rw [if_neg (by decide)];(exact aL)⟩
    |trace_state
 ·rw [if_neg (by decide)]
  have hn0:((ints [0]).length :Int)=1:=rfl
  (repeat' (conv=>whnf);first|refine aC ?_ ?_<;>intro<;>try omega|refine z2_J3 ?_|fail);all_goals try (conv=>whnf)
  refine .mk [.fa] ?_
  exact⟨rfl,Imp.tup ⟨Imp.refl _,Imp.refl _,trivial⟩⟩
end
section
open Go.Sx Go.Cv Go.Gd Go.Np Go.Pk Go.St Go.Mc Go.Tp
theorem TgH.zer {c z B:Int} (h:TgH c z B):Ctr Tryz.prog 60 [ntv (tN c z B)] [] (fun r o=>o=[nbx (tN c z B), .vec 1 (dls [[0]])]∧r= .vec 1):=by
 refine fI 0 Tryz.func60 ?_
 have cC:=rCheck_ok (tN c z B) TgH.nl
 rw [h.chk]at cC
 have hl:((lns (tN c z B).ln).length :Int)=1:=rfl
 have hg:(lns (tN c z B).ln)[0]? =some (lnv (l1L c)):=rfl
 (repeat' (conv=>whnf);first|refine aC ?_ ?_<;>intro<;>try omega|refine z1_R1 ?_|(refine aK [] (cC) ?_)|fail);all_goals try (conv=>whnf)
 all_goals try contradiction
 refine LoopOb.mk (Y:=Nat) (st:=fun i=>⟨[(4,i64 i),(3, .vec 1),(1, .ptr 0 0)],[nbx (tN c z B), .vec 1 (dls (if i=0 then []else [[0]]))]⟩)
  (inv:=fun i=>i≤1) (fun i=>1-i) 0 [0,2] (by omega) (by(exact aL)) ?_
 rintro i hi
 rcases(show i=0∨i=1 by omega)with rfl|rfl
 ·rw [if_pos rfl]
  (repeat' (conv=>whnf);first|refine⟨1,1,rfl,rfl,Nat.le_refl _,⟨by decide,by decide⟩,?_⟩|refine⟨0,_,rfl,hg,?_⟩|refine aC ?_ ?_<;>intro<;>try omega|refine z2_J3 ?_|refine⟨_,_,rfl,rfl,Nat.le_refl _,⟨by(simp only;omega),by omega⟩,?_⟩|fail);all_goals try (conv=>whnf)
  refine .mk [.fz 2] ?_
  (repeat' (conv=>whnf);first|refine⟨⟨Nat.le_of_ble_eq_true rfl,Nat.le_of_ble_eq_true rfl⟩,?_⟩|refine aC ?_ ?_<;>intro<;>try omega|refine z1_R1 ?_|refine⟨_,_,rfl,rfl,Nat.le_refl _,⟨by(simp only;omega),by omega⟩,?_⟩|fail);all_goals try (conv=>whnf)
  all_goals first
   |exact⟨1,[0,4],by omega,by omega,by rw [if_neg (by decide)];(exact aL)⟩
   |trace_state
 ·rw [if_neg (by decide)]
  (repeat' (conv=>whnf);first|refine aC ?_ ?_<;>intro<;>try omega|refine z1_R1 ?_|fail);all_goals try (conv=>whnf)
  exact⟨rfl,rfl⟩
end
end Go.Proofs.YtjhmjiimpmmnhaaGreat
