/- Lemmas of this seat. Conditions: as stated. -/
import Derived.Test.YtjhmjiimpmmnhaaGreatJ1
import Derived.Test.YtjhmjiimpmmnhaaGreatN7
import Derived.Test.YtjhmjiimpmmnhaaGreatT14
import Derived.Test.YtjhmjiimpmmnhaaGreatSo1
import Derived.Test.YtjhmjiimpmmnhaaGreatT1
import Derived.Test.YtjhmjiimpmmnhaaGreatMq
set_option linter.unusedVariables false
set_option linter.unusedSimpArgs false
set_option maxHeartbeats 2000000
set_option maxRecDepth 4000
namespace Go.Proofs.YtjhmjiimpmmnhaaGreat
section
open Go.Sx Go.Cv Go.Gd Go.Np Go.Pk Go.St Go.Mc
noncomputable abbrev bldF (f:Fl) (i:Nat) (o c:Int):List Pk:=(greG f.v f.p f.q f.hi o c).1.map fun t=>⟨i,t,f.hi⟩
noncomputable def bldL (n:Nt) (os cs:List Int):Nat→List Pk
 |0=>[]
 |i+1=>bldL n os cs i++bldF (n.fl.getD i fl0) i (os.getD i 0) (cs.getD i 0)
noncomputable def bldE (n:Nt) (os cs:List Int):Nat→Int
 |0=>0
 |i+1=>if bldE n os cs i≠0 then bldE n os cs i else(greG (n.fl.getD i fl0).v (n.fl.getD i fl0).p (n.fl.getD i fl0).q (n.fl.getD i fl0).hi (os.getD i 0) (cs.getD i 0)).2
noncomputable def bldG (n:Nt) (os cs:List Int):List Pk×Int:=
 if chkN n≠0 then([],6)else if os.length≠n.fl.length∨cs.length≠n.fl.length then([],2)else if bldE n os cs n.fl.length≠0 then([],bldE n os cs n.fl.length)else if 60<(bldL n os cs n.fl.length).length then([],3)else(srt ptm (bldL n os cs n.fl.length),0)
theorem greG_len (vs:List Int) (p q s o c:Int):(greG vs p q s o c).1.length ≤60∧∀x∈(greG vs p q s o c).1,0≤x∧x≤380:=by
 unfold greG
 split
 ·simp
 ·split
  ·simp
  ·obtain⟨u,g,_⟩:=gre_sp (val vs p.toNat q) s c.toNat o
   have:=g.l
   exact⟨by simp only;omega,fun x hx=>by have:=g.bd hx;omega⟩
theorem bldL_len (n:Nt) (os cs:List Int):∀i,(bldL n os cs i).length ≤60*i
 |0=>by simp [bldL]
 |i+1=>by
  have:=bldL_len n os cs i
  have h:=(greG_len (n.fl.getD i fl0).v (n.fl.getD i fl0).p (n.fl.getD i fl0).q (n.fl.getD i fl0).hi (os.getD i 0) (cs.getD i 0)).1
  simp only [bldL,List.length_append,List.length_map]
  omega
theorem bldE_ge {n : Nt} {os cs : List Int} {i : Nat} (h : bldE n os cs i ≠ 0) : ∀ m, i ≤ m → bldE n os cs m = bldE n os cs i := by
  intro m
  induction m with
  | zero => intro hi; obtain rfl : i = 0 := by omega
            rfl
  | succ m ih =>
    intro hi
    by_cases e : i = m + 1
    · subst e; rfl
    · have := ih (by omega)
      simp only [bldE]; rw [if_pos (by rw [this]; exact h), this]
theorem bldC_ok:CmpOK 47 ptm:=fun a b=>by
 refine Ctr.impE (Q:=fun c=>c<0↔a.t<b.t) (s:=fun c=>i64 c) (ow:=fun _=>[]) ?_
 refine fI 0 Tryz.func47 ?_
 (repeat' (conv=>whnf);first|refine aC ?_ ?_<;>intro<;>try omega|refine z2_T11 ?_|(refine aK [] (cmp_ok a.t b.t) ?_)|fail);all_goals try (conv=>whnf)
 exact⟨_,by unfold cmpI;split<;>(try split)<;>omega,rfl,Imp.refl _⟩
theorem z3_J5 {G H:Prop} (k:H) (h:H→G:=by first|exact fun r=>aS r|exact fun r=>aG r|exact fun r=>aD r|exact fun r=>aP_T11 r|exact fun r=>aI r|exact fun r=>aJ r|exact fun r=>aW (.qs [0,1,2,3,4,5,6,7,8,9,10,11,12] (.l 13 [] (.qs [14,15,16,17,18] .nil) .no)) r):G:=h k
theorem z2_J5 {G H:Prop} (k:H) (h:H→G:=by first|exact fun r=>aS r|exact fun r=>aG r|exact fun r=>aD r|exact fun r=>aH r|exact fun r=>aP_T11 r|exact fun r=>aI r|exact fun r=>aJ r|exact fun r=>aW (.qs [0,1,2,3,4,5,6,7,8,9,10,11,12] (.l 13 [] (.qs [14,15,16,17,18] .nil) .no)) r):G:=h k
theorem Build_ok (n:Nt) (hn:NL n) (os cs:List Int) (hos:os.length≤1000000) (hcs:cs.length≤1000000):
  Ctr Tryz.prog 19 [ntv n, .psl 1 (ints os), .psl 1 (ints cs)] [] (fun r o=>o=[]∧r= .tup [.psl 3 (pks (bldG n os cs).1),i64 (bldG n os cs).2]):=by
 refine Ctr.imp ?_
 refine fI 0 Tryz.func19 ?_
 have hol:=ints_len os
 have hcl:=ints_len cs
 have hfl:=fll n.fl
 have hnf:=hn.fl
 have cK:=Check_ok n hn
 unfold bldG
 by_cases hc:chkN n=0
 ·rw [if_neg (by simpa using hc)]
  rw [hc]at cK
  by_cases hl:os.length≠n.fl.length∨cs.length≠n.fl.length
  ·rw [if_pos hl]
   (repeat' (conv=>whnf);first|refine AsgOb.nil ?_|refine aC ?_ ?_<;>intro<;>try omega|refine z2_J5 ?_|(refine aK [] (cK) ?_)|fail);all_goals try (conv=>whnf)
   all_goals exact⟨rfl,Imp.tup ⟨Imp.nil _,Imp.refl _,trivial⟩⟩
  ·rw [if_neg hl]
   have h10:=chk_n hc
   (repeat' (conv=>whnf);first|refine aC ?_ ?_<;>intro<;>try omega|refine z2_J5 ?_|(refine aK [] (cK) ?_)|fail);all_goals try (conv=>whnf)
   refine LoopOb.mk (Y:=Nat) (st:=fun i=>⟨[(35,i64 i),(34,i64 (fls n.fl).length),(33, .psl 8 (fls n.fl)),(8, .vec 1),(3, .ptr 0 0),(1, .psl 1 (ints os)),(2, .psl 1 (ints cs))],[.box [.psl 1 (strs n.nm), .psl 5 (lns n.ln), .psl 8 (fls n.fl)], .vec 3 (pks (bldL n os cs i))]⟩)
    (inv:=fun i=>i≤n.fl.length∧bldE n os cs i=0) (fun i=>n.fl.length-i) 0 [0,2] ⟨by omega,rfl⟩ (by(exact aL)) ?_
   rintro i ⟨hi,he⟩
   by_cases hil:i<n.fl.length
   ·have hfg:=flg (l:=n.fl) (i:=i) hil
    have hog:=ints_get (l:=os) (j:=i) (by omega)
    have hcg:=ints_get (l:=cs) (j:=i) (by omega)
    have hll:=bldL_len n os cs i
    have hE:bldE n os cs (i+1)=(greG (n.fl.getD i fl0).v (n.fl.getD i fl0).p (n.fl.getD i fl0).q (n.fl.getD i fl0).hi (os.getD i 0) (cs.getD i 0)).2 :=by simp only [bldE];rw [if_neg (by omega)]
    have hL:bldL n os cs (i+1)=bldL n os cs i++bldF (n.fl.getD i fl0) i (os.getD i 0) (cs.getD i 0):=rfl
    have hge:=fun h=>bldE_ge (n:=n) (os:=os) (cs:=cs) (i:=i+1) h n.fl.length hil
    generalize n.fl.getD i fl0=f at*
    generalize os.getD i 0=o at*
    generalize cs.getD i 0=c at*
    have cG:=Greedy_ok f.v f.p f.q f.hi o c
    have hgl:=greG_len f.v f.p f.q f.hi o c
    have hbf:bldF f i o c=(greG f.v f.p f.q f.hi o c).1.map fun t=>⟨i,t,f.hi⟩:=rfl
    rw [hbf]at hL
    generalize greG f.v f.p f.q f.hi o c=G at*
    obtain⟨T,e⟩:=G
    dsimp only at*
    by_cases he0:e=0
    ·subst he0
     (repeat' (conv=>whnf);first|refine⟨i,_,rfl,hcg,?_⟩|refine⟨i,_,rfl,hog,?_⟩|refine⟨i,_,rfl,hfg,?_⟩|refine aC ?_ ?_<;>intro<;>try omega|refine z2_J5 ?_|(refine aK [] (cG) ?_)|fail);all_goals try (conv=>whnf)
     have htl:=ints_len T
     refine LoopOb.mk (Y:=Nat) (st:=fun k=>⟨[(62,i64 k),(61,i64 (ints T).length),(60, .psl 1 (ints T)),(9,i64 i),(10, .ptr 2 0),(35,i64 i),(34,i64 (fls n.fl).length),(33, .psl 8 (fls n.fl)),(8, .vec 1),(3, .ptr 0 0),(1, .psl 1 (ints os)),(2, .psl 1 (ints cs))],[.box [.psl 1 (strs n.nm), .psl 5 (lns n.ln), .psl 8 (fls n.fl)], .vec 3 (pks (bldL n os cs i++(T.take k).map fun t=>⟨i,t,f.hi⟩)), .box (flv f)]⟩)
      (inv:=fun k=>k≤T.length) (fun k=>T.length-k) 0 [0,1,2] (by omega) (by rw [List.take_zero,List.map_nil,List.append_nil];(exact aL)) ?_
     rintro k hk
     by_cases hkl:k<T.length
     ·have hg:=ints_get (l:=T) (j:=k) hkl
      have hnx:pks (bldL n os cs i++(T.take (k+1)).map fun t=>(⟨i,t,f.hi⟩:Pk))=pks (bldL n os cs i++(T.take k).map fun t=>⟨i,t,f.hi⟩)++[[i64 i,i64 (T.getD k 0),i64 f.hi]]:=by
       rw [List.take_succ_eq_append_getElem hkl,show T.getD k 0=T[k]by rw [List.getD_eq_getElem?_getD,List.getElem?_eq_getElem hkl];rfl]
       simp only [pks,List.map_append,List.map_cons,List.map_nil,List.append_assoc]
      have hml:(bldL n os cs i++(T.take k).map fun t=>(⟨i,t,f.hi⟩:Pk)).length ≤660:=by simp only [List.length_append,List.length_map,List.length_take];omega
      generalize bldL n os cs i++(T.take k).map (fun t=>(⟨i,t,f.hi⟩:Pk))=L at*
      generalize T.getD k 0=t at*
      have hLl:=pks_len L
      (repeat' (conv=>whnf);first|refine⟨k,_,rfl,hg,?_⟩|refine aC ?_ ?_<;>intro<;>try omega|refine z2_J5 ?_|fail);all_goals try (conv=>whnf)
      exact⟨k+1,[0,4,2],by omega,by omega,by rw [hnx];(exact aL)⟩
     ·obtain rfl:k=T.length:=by omega
      rw [List.take_length,←hL]
      (repeat' (conv=>whnf);first|refine aC ?_ ?_<;>intro<;>try omega|refine z2_J5 ?_|fail);all_goals try (conv=>whnf)
      exact⟨i+1,[0,1],⟨by omega,hE⟩,by omega,by(exact aL)⟩
    ·have he1:=hge (by rw [hE];exact he0)
     rw [hE]at he1
     rw [he1,if_pos he0]
     (repeat' (conv=>whnf);first|refine⟨i,_,rfl,hcg,?_⟩|refine⟨i,_,rfl,hog,?_⟩|refine⟨i,_,rfl,hfg,?_⟩|refine AsgOb.nil ?_|refine aC ?_ ?_<;>intro<;>try omega|refine z2_J5 ?_|(refine aK [] (cG) ?_)|fail);all_goals try (conv=>whnf)
     exact⟨rfl,Imp.tup ⟨Imp.nil _,Imp.refl _,trivial⟩⟩
   ·obtain rfl:i=n.fl.length:=by omega
    rw [he,if_neg (by simp)]
    have hll:=bldL_len n os cs n.fl.length
    generalize bldL n os cs n.fl.length=L at*
    have hLl:=pks_len L
    by_cases h60:60<L.length
    ·rw [if_pos h60]
     (repeat' (conv=>whnf);first|refine AsgOb.nil ?_|refine aC ?_ ?_<;>intro<;>try omega|refine z2_J5 ?_|fail);all_goals try (conv=>whnf)
     exact⟨rfl,Imp.tup ⟨Imp.nil _,Imp.refl _,trivial⟩⟩
    ·rw [if_neg h60]
     have cS:=SortStableN_ok _ _ bldC_ok L (by omega)
     (repeat' (conv=>whnf);first|refine aC ?_ ?_<;>intro<;>try omega|refine z3_J5 ?_|(refine Gh.mk [] ?_;(conv=>whnf);refine aK [1] cS ?_)|fail);all_goals try (conv=>whnf)
     refine .mk [.fz 1] ?_
     (repeat' (conv=>whnf);first|refine aC ?_ ?_<;>intro<;>try omega|refine z2_J5 ?_|fail);all_goals try (conv=>whnf)
     exact⟨rfl,Imp.refl _⟩
 ·rw [if_pos hc]
  (repeat' (conv=>whnf);first|refine AsgOb.nil ?_|refine aC ?_ ?_<;>intro<;>try omega|refine z2_J5 ?_|(refine aK [] (cK) ?_)|fail);all_goals try (conv=>whnf)
  all_goals first
   |exact⟨rfl,Imp.tup ⟨Imp.nil _,Imp.refl _,trivial⟩⟩
   |exact absurd (by assumption) hc
end
section
open Go.Sx Go.Pk Go.Mc
abbrev bls (m:Nat) (f:Nat→Bool):List (List SV):=(List.range m).map fun b=>[.bl (f b)]
abbrev ivs (m:Nat) (f:Nat→Int):List (List SV):=(List.range m).map fun b=>[i64 (f b)]
theorem bls_len (m:Nat) (f:Nat→Bool):(bls m f).length =m:=by simp [bls]
theorem ivs_len (m:Nat) (f:Nat→Int):(ivs m f).length =m:=by simp [ivs]
theorem bls_get {m b:Nat} {f:Nat→Bool} (h:b<m):(bls m f)[b]? =some [.bl (f b)]:=by simp [bls,h]
theorem ivs_get {m b:Nat} {f:Nat→Int} (h:b<m):(ivs m f)[b]? =some [i64 (f b)]:=by simp [ivs,h]
theorem map_upd {α β:Type} {m b:Nat} {f:Nat→α} {v:α} {g:α→β}:((List.range m).map fun i=>g (f i)).set b (g v)=(List.range m).map fun i=>g (upd f b v i):=by
 apply List.ext_getElem?;intro j
 rw [List.getElem?_set]
 by_cases e:b=j
 ·subst e
  rw [if_pos rfl]
  by_cases h:b<m
  ·simp [h,upd_same]
  ·simp [h]
 ·rw [if_neg e]
  by_cases h:j<m
  ·simp [h,upd_ne (fun e'=>e e'.symm)]
  ·simp [h]
theorem bls_set {m b:Nat} {f:Nat→Bool} {v:Bool}:(bls m f).set b [.bl v]=bls m (upd f b v):=map_upd (g:=fun x=>[SV.bl x])
theorem ivs_set {m b:Nat} {f:Nat→Int} {v:Int}:(ivs m f).set b [i64 v]=ivs m (upd f b v):=map_upd (g:=fun x=>[i64 x])
theorem bls_rep (m:Nat) (v:Bool):List.replicate m [SV.bl v]=bls m fun _=>v:=by
 apply List.ext_getElem?;intro j
 by_cases h:j<m<;>simp [bls,h]
theorem ivs_rep (m:Nat) (v:Int):List.replicate m [i64 v]=ivs m fun _=>v:=by
 apply List.ext_getElem?;intro j
 by_cases h:j<m<;>simp [ivs,h]
def oI:Option Nat→Int
 |none=> -1
 |some i=>i
abbrev stB (now left:Int) (p:List Pk) (bef:Nat):Chunk:= .box [i64 now,i64 left, .psl 3 (pks p), .vec 1,i64 bef]
structure PL (p:List Pk):Prop where
 l:p.length≤60
 a:Asc p
 s:∀i,i<p.length→1≤(p.getD i pk0).s ∧(p.getD i pk0).s ≤1500
 t:∀i,i<p.length→0≤(p.getD i pk0).t ∧(p.getD i pk0).t ≤2000
end
end Go.Proofs.YtjhmjiimpmmnhaaGreat
