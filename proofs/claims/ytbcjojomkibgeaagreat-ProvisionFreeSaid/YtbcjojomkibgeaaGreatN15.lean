/- Lemmas of this seat. Conditions: as stated. -/
import Derived.Test.YtbcjojomkibgeaaGreatN14
set_option linter.unusedVariables false
set_option linter.unusedSimpArgs false
set_option maxHeartbeats 2000000
set_option maxRecDepth 4000
namespace Go.Proofs.YtbcjojomkibgeaaGreat
open Go.Sx Go.Np Go.Cv
structure LnG (k:Nat) (l:Ln):Prop where
 p:PortG k l
 w:l.w.length≤2
 s:l.s.length≤4
structure NetG (ml mf k:Nat) (n:Nt):Prop where
 g:NtG k n
 ml:n.ln.length≤ml
 mf:n.fl.length≤mf
 lg:∀l∈n.ln,LnG k l
theorem z2_N15 {G H:Prop} (k:H) (h:H→G:=by first|exact fun r=>aS r|exact fun r=>aG r|exact fun r=>aD r|exact fun r=>aP_Ks r|exact fun r=>aI r|exact fun r=>aJ r|exact fun r=>aW (.qs [0,1,3,4,5,6] (.l 2 [4,1] (.qs [7,8] (.l 9 [1] (.l 10 [] (.qs [11] (.l 12 [] .nil .no)) .no) .no)) .no)) r|exact fun r=>aW (.qs [0,1,2,3] (.l 4 [1] (.l 5 [1] (.l 6 [] (.qs [7] (.l 8 [] .nil .no)) .no) .no) .no)) r|exact fun r=>aW (.qs [0,1,2,3,5,6,7,8,11] (.l 4 [6,3,1] (.qs [9,10] (.l 12 [1] (.l 13 [1] (.l 14 [] (.qs [15] (.l 16 [] .nil .no)) .no) .no) .no)) .no)) r):G:=h k
theorem z1_N15 {G H:Prop} (k:H) (h:H→G:=by first|exact fun r=>aS r|exact fun r=>aG r|exact fun r=>aD r|exact fun r=>aH r|exact fun r=>aP_Ks r|exact fun r=>aI r|exact fun r=>aJ r|exact fun r=>aW (.qs [0,1,3,4,5,6] (.l 2 [4,1] (.qs [7,8] (.l 9 [1] (.l 10 [] (.qs [11] (.l 12 [] .nil .no)) .no) .no)) .no)) r|exact fun r=>aW (.qs [0,1,2,3] (.l 4 [1] (.l 5 [1] (.l 6 [] (.qs [7] (.l 8 [] .nil .no)) .no) .no) .no)) r|exact fun r=>aW (.qs [0,1,2,3,5,6,7,8,11] (.l 4 [6,3,1] (.qs [9,10] (.l 12 [1] (.l 13 [1] (.l 14 [] (.qs [15] (.l 16 [] .nil .no)) .no) .no) .no)) .no)) r):G:=h k
theorem Net_ok (L:List Int) (p:Nat) (hL:L.length≤2000) (hp:p≤2000) (ml mf:Nat) (hml:1≤ml∧ml≤4) (hmf:mf≤5):
  Ctr Tryz.prog 8 [.ptr 0 0,i64 ml,i64 mf] [src L p] (fun r o=>∃x:Nt×Nat×Nat,(NetG ml mf x.2.1 x.1∧x.2.2≤2000)∧o=[src L x.2.2]∧r=ntv x.1):=by
 refine Ctr.impE ?_
 refine fI 1 Tryz.func8 ?_
 (repeat' (conv=>whnf);first|refine aC ?_ ?_<;>intro<;>try omega|refine z1_N15 ?_|fail);all_goals try (conv=>whnf)
 refine aM [0] (Range_ok L p hL hp 1 2 (by omega) (by omega) (by omega)) rfl rfl ?_
 rintro _ _ ⟨⟨k,p1⟩,⟨k1,k2,hp1⟩,rfl,rfl⟩
 dsimp only at k1 k2 hp1⊢
 obtain⟨k,rfl⟩:∃n:Nat,k=n:=⟨k.toNat,by omega⟩
 (repeat' (conv=>whnf);first|refine aC ?_ ?_<;>intro<;>try omega|refine z1_N15 ?_|fail);all_goals try (conv=>whnf)
 refine aM [0] (Range_ok L p1 hL hp1 1 ml (by omega) (by omega) (by omega)) rfl rfl ?_
 rintro _ _ ⟨⟨v,p2⟩,⟨v1,v2,hp2⟩,rfl,rfl⟩
 dsimp only at v1 v2 hp2⊢
 obtain⟨v,rfl⟩:∃n:Nat,v=n:=⟨v.toNat,by omega⟩
 (repeat' (conv=>whnf);first|refine aC ?_ ?_<;>intro<;>try omega|refine z2_N15 ?_|fail);all_goals try (conv=>whnf)
 refine .mk [.nb 2 0 1, .nb 2 1 5, .nb 2 2 8] ?_
 refine LoopOb.mk (Y:=List Ln×Nat) (st:=fun y=>⟨[(9,i64 ((v:Int)-y.1.length)),(8,i64 k),(7, .ptr 2 0),(6, .ptr 1 0),(0, .ptr 0 0),(2,i64 mf)],[src L y.2, .box [.nil, .nil, .nil], .box [.vec 3, .vec 4, .vec 5], .vec 1 (strs (nms y.1.length)), .vec 5 (lns y.1), .vec 8 []]⟩)
  (inv:=fun y=>y.1.length≤v∧(∀l∈y.1,LnG k l)∧y.2≤2000) (fun y=>v-y.1.length) ([],p2) [0,1,2,3,4,5] ⟨by simp,by simp,hp2⟩ (by(exact aL)) ?_
 rintro⟨ls,p3⟩ ⟨hl,hg,hp3⟩
 dsimp only at hl hg hp3⊢
 have hsl:=stl (nms ls.length)
 have hnl:=nms_len (t:=ls.length)
 have hll:=lnl ls
 (repeat' (conv=>whnf);first|refine z1_N15 ?_|fail);all_goals try (conv=>whnf)
 refine CondOb.mk (fun hlt=>?_) (fun hlt=>?_)
 ·have hlit:([[.str ⟨#[97]⟩],[.str ⟨#[98]⟩],[.str ⟨#[99]⟩],[.str ⟨#[100]⟩]]:List (List SV))[ls.length]? =some [.str (lname ls.length)]:=by
   rcases(show ls.length=0∨ls.length=1∨ls.length=2∨ls.length=3 by omega)with h|h|h|h<;>rw [h]<;>rfl
  have hmod:((strs (nms ls.length)).length :Int).tmod 4=ls.length:=by
   rw [hsl,hnl];exact Int.tmod_eq_of_lt (by omega) (by omega)
  (repeat' (conv=>whnf);first|refine LitOb.ful ?_|refine aC ?_ ?_<;>intro<;>try omega|refine z1_N15 ?_|refine⟨by decide,?_⟩|refine⟨ls.length,_,hmod,hlit,?_⟩|(refine aM [0] (Port_ok L p3 hL hp3 k (by omega)) rfl rfl ?_;rintro _ _ ⟨⟨l,p4⟩,⟨hP,hw,hs,hp4⟩,rfl,rfl⟩;dsimp only at hP hw hs hp4⊢)|fail);all_goals try (conv=>whnf)
  exact⟨(ls++[l],p4),[0,1,2,6,7,5],⟨by simp only [List.length_append,List.length_singleton];omega,all_app hg ⟨hP,hw,hs⟩,hp4⟩,by simp only [List.length_append,List.length_singleton];omega,by dsimp only;rw [List.length_append,List.length_singleton,nms_succ,strs_app,lns_app];(exact aL)⟩
 have hv:v=ls.length:=by omega
 subst hv
 (repeat' (conv=>whnf);first|refine aC ?_ ?_<;>intro<;>try omega|refine z2_N15 ?_|fail);all_goals try (conv=>whnf)
 refine .mk [.fz 3, .fz 4] ?_
 (repeat' (conv=>whnf);first|refine aC ?_ ?_<;>intro<;>try omega|refine z2_N15 ?_|fail);all_goals try (conv=>whnf)
 refine aM [0] (Range_ok L p3 hL hp3 0 mf (by omega) (by omega) (by omega)) rfl rfl ?_
 rintro _ _ ⟨⟨v',p4⟩,⟨w1,w2,hp4⟩,rfl,rfl⟩
 dsimp only at w1 w2 hp4⊢
 obtain⟨v',rfl⟩:∃n:Nat,v'=n:=⟨v'.toNat,by omega⟩
 (repeat' (conv=>whnf);first|refine aC ?_ ?_<;>intro<;>try omega|refine z2_N15 ?_|fail);all_goals try (conv=>whnf)
 refine .mk [] ?_
 refine LoopOb.mk (Y:=List Fl×Nat) (st:=fun y=>⟨[(10,i64 ((v':Int)-y.1.length)),(8,i64 k),(7, .ptr 2 0),(6, .ptr 1 0),(0, .ptr 0 0)],[src L y.2, .box [.nil, .nil, .nil], .box [.psl 1 (strs (nms ls.length)), .psl 5 (lns ls), .vec 3], .vec 8 (fls y.1)]⟩)
  (inv:=fun y=>y.1.length≤v'∧(∀f∈y.1,FlG ls.length k f)∧(∀i,i<y.1.length→(y.1.getD i fl0).nm =fname i)∧y.2≤2000) (fun y=>v'-y.1.length) ([],p4) [0,1,2,5] ⟨by simp,by simp,by simp,hp4⟩ (by(exact aL)) ?_
 rintro⟨fl,p5⟩ ⟨fl1,fg,fnm,hp5⟩
 dsimp only at fl1 fg fnm hp5⊢
 have hfl:=fll fl
 (repeat' (conv=>whnf);first|refine z1_N15 ?_|fail);all_goals try (conv=>whnf)
 refine CondOb.mk (fun hlt2=>?_) (fun hlt2=>?_)
 ·have hlit:([[.str ⟨#[102]⟩],[.str ⟨#[103]⟩],[.str ⟨#[104]⟩],[.str ⟨#[105]⟩],[.str ⟨#[106]⟩]]:List (List SV))[fl.length]? =some [.str (fname fl.length)]:=by
   rcases(show fl.length=0∨fl.length=1∨fl.length=2∨fl.length=3∨fl.length=4 by omega)with h|h|h|h|h<;>rw [h]<;>rfl
  have hmod:((fls fl).length :Int).tmod 5=fl.length:=by
   rw [hfl];exact Int.tmod_eq_of_lt (by omega) (by omega)
  (repeat' (conv=>whnf);first|refine LitOb.ful ?_|refine aC ?_ ?_<;>intro<;>try omega|refine z1_N15 ?_|refine⟨by decide,?_⟩|refine⟨fl.length,_,hmod,hlit,?_⟩|(refine aM [0,3] (Flow_ok L p5 hL hp5 (nms ls.length) ls fl (fname fl.length) k (by omega) (by omega)) rfl rfl ?_;rintro _ _ ⟨⟨f,p6⟩,⟨hF,hnm,hp6⟩,rfl,rfl⟩;dsimp only at hF hnm hp6⊢)|fail);all_goals try (conv=>whnf)
  refine⟨(fl++[f],p6),[0,1,2,4],⟨by simp only [List.length_append,List.length_singleton];omega,all_app fg hF,fun i hi=>?_,hp6⟩,by simp only [List.length_append,List.length_singleton];omega,by dsimp only;rw [List.length_append,List.length_singleton,fls_app];(exact aL)⟩
  simp only [List.length_append,List.length_singleton]at hi
  by_cases e:i=fl.length
  ·subst e;simp [List.getD_eq_getElem?_getD,hnm]
  ·have:=fnm i (by omega)
   rw [←this]
   simp [List.getD_eq_getElem?_getD,List.getElem?_append_left (show i<fl.length by omega)]
 ·(repeat' (conv=>whnf);first|refine aC ?_ ?_<;>intro _|refine z2_N15 ?_|fail);all_goals try (conv=>whnf)
  refine .mk [.fz 3] ?_
  (repeat' (conv=>whnf);first|refine aC ?_ ?_<;>intro _|refine z1_N15 ?_|fail);all_goals try (conv=>whnf)
  refine⟨(⟨nms ls.length,ls,fl⟩,k,p5),⟨⟨⟨⟨by dsimp only;omega,by dsimp only;omega⟩,⟨by dsimp only;omega,by dsimp only;omega⟩,hnl,fun i hi=>nms_get hi,fun l hl=>⟨(hg l hl).p.e,(hg l hl).p.n⟩,by dsimp only;omega,fnm,fg⟩,by dsimp only;omega,by dsimp only;omega,hg⟩,hp5⟩,rfl,Imp.refl _⟩
theorem NetG.nl {ml mf k:Nat} {n:Nt} (h:NetG ml mf k n):NL n:=by
 have g:=h.g
 refine⟨by rw [g.nl];have:=g.ll;omega,by have:=g.ll;omega,by have:=g.fl;omega,fun s hs=>?_,fun l hl=>?_,fun f hf=>?_⟩
 ·obtain⟨i,hi,rfl⟩:=List.mem_iff_getElem.1 hs
  have:=g.nm i (by rw [←g.nl];exact hi)
  rw [List.getD_eq_getElem?_getD,List.getElem?_eq_getElem hi,Option.getD_some]at this
  rw [this];simp [lname,ByteArray.size]
 ·have:=h.lg l hl
  have h1:=this.w
  have h2:=this.s
  omega
 ·have:=g.fg f hf
  have h1:=this.r1
  obtain⟨b,_,_,p1,p2,hv,_⟩:=this.ct
  obtain⟨i,hi,rfl⟩:=List.mem_iff_getElem.1 hf
  have hn:=g.fn i hi
  rw [List.getD_eq_getElem?_getD,List.getElem?_eq_getElem hi,Option.getD_some]at hn
  refine⟨by rw [hn];simp [fname,ByteArray.size],by omega,by rw [hv];simp;omega⟩
end Go.Proofs.YtbcjojomkibgeaaGreat
