/- Lemmas of this seat. Conditions: as stated. -/
import Derived.Test.YtjhmjiimpmmnhaaGreatY5
import Derived.Test.YtjhmjiimpmmnhaaGreatSo7
import Derived.Test.YtjhmjiimpmmnhaaGreatR6
import Derived.Test.YtjhmjiimpmmnhaaGreatS6
import Derived.Test.YtjhmjiimpmmnhaaGreatY1
import Derived.Test.YtjhmjiimpmmnhaaGreatN10
import Derived.Test.YtjhmjiimpmmnhaaGreatN8
import Derived.Test.YtjhmjiimpmmnhaaGreatGf
set_option linter.unusedVariables false
set_option linter.unusedSimpArgs false
set_option maxHeartbeats 2000000
set_option maxRecDepth 4000
namespace Go.Proofs.YtjhmjiimpmmnhaaGreat
section
open Go.Sx Go.Np Go.Cv Go.Tp
inductive ConR (J:Nat→C3×Int→Prop) (N:Nat):List C3→List C3×Int→Prop
 |stop (cs:List C3):cs.length=N→ConR J N cs (cs,0)
 |go {cs:List C3} {b:C3} {y:List C3×Int}:cs.length<N→J cs.length (b,0)→ConR J N (cs++[b]) y→ConR J N cs y
 |err {cs:List C3} {x:C3×Int}:cs.length<N→J cs.length x→x.2≠0→ConR J N cs ([],x.2)
theorem ConR.uniq {J:Nat→C3×Int→Prop} {N:Nat} (hJ:∀c x y,J c x→J c y→x=y):∀{cs:List C3} {y z:List C3×Int},ConR J N cs y→ConR J N cs z→y=z:=by
 intro cs y z h
 induction h with
 |stop cs h=>intro k;cases k with
  |stop=>rfl
  |go h=>omega
  |err h=>omega
 |go h1 h2 _ ih=>intro k;cases k with
  |stop=>omega
  |go k1 k2 k3=>cases hJ _ _ _ h2 k2;exact ih k3
  |err k1 k2 k3=>cases hJ _ _ _ h2 k2;exact absurd rfl k3
 |err h1 h2 h3=>intro k;cases k with
  |stop=>omega
  |go k1 k2 k3=>cases hJ _ _ _ h2 k2;exact absurd rfl h3
  |err k1 k2 k3=>cases hJ _ _ _ h2 k2;rfl
def ConP (n:Nt) (d:List (List Int)) (l:Int) (y:List C3×Int):Prop:=
 (¬ShapeP n d∧y=([],6))∨(ShapeP n d∧¬(0≤l∧l<n.ln.length)∧y=([],2))∨
 (ShapeP n d∧(0≤l∧l<n.ln.length)∧ConR (fun(c:Nat) y=>ClsP n d l c y) (n.ln.getD l.toNat ln0).n.toNat [] y)
theorem ConP.uniq {n:Nt} {d:List (List Int)} {l:Int} {y z:List C3×Int} (h:ConP n d l y) (k:ConP n d l z):y=z:=by
 rcases h with⟨a,rfl⟩|⟨a,b,rfl⟩|⟨a,b,h⟩<;>rcases k with⟨a',rfl⟩|⟨a',b',rfl⟩|⟨a',b',h'⟩
 ·rfl
 ·exact absurd a' a
 ·exact absurd a' a
 ·exact absurd a a'
 ·rfl
 ·exact absurd b' b
 ·exact absurd a a'
 ·exact absurd b b'
 ·exact ConR.uniq (fun c x y h k=>h.uniq k) h h'
abbrev cvw (c:C3):List SV:=[.psl 1 (ints c.1),i64 c.2.1,i64 c.2.2]
theorem chk_cls {n:Nt} (h:chkN n=0) {i:Nat} (hi:i<n.ln.length):1≤(n.ln.getD i ln0).n ∧(n.ln.getD i ln0).n ≤6:=by
 have h1:=(chkN_zero h).2.2.1 i hi
 unfold lineE at h1
 split at h1
 ·contradiction
 ·unfold lnErr at h1
  split at h1
  ·contradiction
  ·split at h1
   ·contradiction
   ·omega
theorem cvw_len (cs:List C3):(cs.map cvw).length =cs.length:=by simp
theorem rContractsX_ok (n : Nt) (hn : NL n) (hb : n.fl.length ≤ 1000) (d : List (List Int)) (hd : DL d) (l : Int) :
    Ctr Tryz.prog 90 [ntv n, .psl 1 (dls d), i64 l] [] (fun r o => ∃ y : List C3 × Int, ConP n d l y ∧ o = [] ∧ r = .tup [.psl 3 (y.1.map cvw), i64 y.2]) := by
  refine Ctr.impE ?_
  refine fI 0 Tryz.func90 ?_
  have hll := lnl n.ln
  by_cases hR : ShapeP n d ∧ (0 ≤ l ∧ l < n.ln.length)
  · obtain ⟨hS, hl⟩ := hR
    have hg := lng (l := n.ln) (i := l.toNat) (by omega)
    obtain ⟨N, hN, hN6⟩ : ∃ N : Nat, (n.ln.getD l.toNat ln0).n = N ∧ N ≤ 6 := by
      have := chk_cls hS.c (i := l.toNat) (by omega)
      exact ⟨(n.ln.getD l.toNat ln0).n.toNat, by omega, by omega⟩
    have hY : ∀ y, ConR (fun (c : Nat) y => ClsP n d l c y) N [] y → ConP n d l y := fun y h => .inr (.inr ⟨hS, hl, by rw [hN, Int.toNat_natCast]; exact h⟩)
    generalize n.ln.getD l.toNat ln0 = ll at *
    (repeat' (conv => whnf); first | refine ⟨l.toNat, _, by omega, hg, ?_⟩ | refine aC ?_ ?_ <;> intro <;> try omega | refine z1_R1 ?_ | (refine aK [] (rShape_ok n hn d hd) ?_) | fail); all_goals try (conv => whnf)
    all_goals try exact absurd hS (by assumption)
    refine LoopOb.mk (Y := List C3) (st := fun cs => ⟨[(9, i64 cs.length), (8, .vec 1), (3, .ptr 0 0), (1, .psl 1 (dls d)), (2, i64 l)], [.box [.psl 1 (strs n.nm), .psl 5 (lns n.ln), .psl 8 (fls n.fl)], .vec 3 (cs.map cvw)]⟩)
      (inv := fun cs => cs.length ≤ N ∧ ∀ z, ConR (fun (c : Nat) y => ClsP n d l c y) N cs z → ConP n d l z) (fun cs => N - cs.length) [] [0, 2] ⟨by simp, hY⟩ (by (exact aL)) ?_
    rintro cs ⟨hc, hz⟩
    have hxl := cvw_len cs
    (repeat' (conv => whnf); first | refine ⟨l.toNat, _, by omega, hg, ?_⟩ | refine z1_R1 ?_ | fail); all_goals try (conv => whnf)
    refine CondOb.mk (fun hlt => ?_) (fun hlt => ?_)
    · have hcl2 : cs.length < N := by omega
      have cC := rClassX_ok n hn hb d hd l cs.length
      (repeat' (conv => whnf); first | refine AsgOb.nil ?_ | refine aC ?_ ?_ <;> intro <;> try omega | refine z1_R1 ?_ | (refine aM [] cC rfl rfl ?_; rintro _ _ ⟨⟨b, e⟩, hb, rfl, rfl⟩; dsimp only at hb ⊢) | fail); all_goals try (conv => whnf)
      all_goals first
        | exact ⟨([], e), hz _ (.err (x := (b, e)) hcl2 hb (by assumption)), rfl, Imp.tup ⟨Imp.nil _, Imp.refl _, trivial⟩⟩
        | (obtain rfl : e = 0 := by omega
           exact ⟨cs ++ [b], [0, 4], ⟨by rw [List.length_append, List.length_singleton]; omega, fun z h => hz z (.go hcl2 hb h)⟩, by rw [List.length_append, List.length_singleton]; omega, by rw [List.map_append, List.map_singleton, List.length_append, List.length_singleton]; (exact aL)⟩)
    · have e : cs.length = N := by omega
      (repeat' (conv => whnf); first | refine aC ?_ ?_ <;> intro <;> try omega | refine z2_J3 ?_ | fail); all_goals try (conv => whnf)
      refine .mk [.fa] ?_
      (repeat' (conv => whnf); first | refine aC ?_ ?_ <;> intro <;> try omega | refine z1_R1 ?_ | fail); all_goals try (conv => whnf)
      exact ⟨(cs, 0), hz _ (.stop cs e), rfl, Imp.refl _⟩
  · (repeat' (conv => whnf); first | refine ⟨l.toNat, _, by omega, lng (l := n.ln) (i := l.toNat) (by omega), ?_⟩ | refine AsgOb.nil ?_ | refine aC ?_ ?_ <;> intro <;> try omega | refine z1_R1 ?_ | (refine aK [] (rShape_ok n hn d hd) ?_) | fail); all_goals try (conv => whnf)
    all_goals try exact ⟨([], 6), .inl ⟨by assumption, rfl⟩, rfl, Imp.tup ⟨Imp.nil _, Imp.refl _, trivial⟩⟩
    all_goals
      have hSp : ShapeP n d := Classical.not_not.1 (by assumption)
      have hno : ¬(0 ≤ l ∧ l < n.ln.length) := fun k => hR ⟨hSp, k⟩
    all_goals first
      | (refine ⟨([], 2), .inr (.inl ⟨hSp, hno, rfl⟩), rfl, Imp.tup ⟨Imp.nil _, Imp.refl _, trivial⟩⟩; done)
      | (exfalso; omega)
      | trace_state
end
section
open Go.Sx Go.Pk Go.Mc Go.Np Go.Tp
theorem RHEnd_ok (n:Nt) (hn:NL n) (d:List (List Int)) (hd:DL d) (hS:ShapeP n d) (f:Int):Ctr Tryz.prog 32 [ntv n, .psl 1 (dls d),i64 f] [] (fun r o=>o=[]∧r=arrT (endO n d f)):=by
 refine fI 0 Tryz.func32 ?_
 have hfl:=fll n.fl
 have hnf:=hn.fl
 have hdl:=dls_len d
 have hd1:=hd.l
 by_cases hf:0≤f∧f<n.fl.length
 ·obtain⟨j,rfl⟩:=Int.eq_ofNat_of_zero_le hf.1
  have hj:j<n.fl.length:=by omega
  have hfg:=flg (l:=n.fl) (i:=j) hj
  have hRt:=chk_fl hS.c j hj
  have heo:endO n d j=match bef d (n.fl.getD j fl0) (n.fl.getD j fl0).rt.length with
    |none=>none
    |some s=>some ((n.fl.getD j fl0).rt.length -1+(s:Int)):=by
   unfold endO;rw [if_pos hf,Int.toNat_natCast];rfl
  have hbl:=fun i s hi hs=>bef_le hS hRt (i:=i) (s:=s) hi hs
  have hdy:=fun i hi=>hS.dly hRt (i:=i) hi
  have hrb:=hRt.b
  have hrc:=hRt.c
  have r4:=hRt.l2
  have r1:=hRt.l1
  clear hRt
  generalize n.fl.getD j fl0=w at*
  have hrl:=ints_len w.rt
  (repeat' (conv=>whnf);first|refine⟨j,_,rfl,hfg,?_⟩|refine aC ?_ ?_<;>intro<;>try omega|refine z1_Y4 ?_|(refine aK [] (rShape_ok n hn d hd) ?_)|fail);all_goals try (conv=>whnf)
  ·exact absurd hS (by assumption)
  refine LoopOb.mk (Y:=Nat×Nat) (st:=fun y=>⟨[(10,i64 y.1),(9,i64 ((w.rt.length:Int)-1+y.2)),(8, .ptr 1 0),(1, .psl 1 (dls d))],[nbx n, .box (flv w)]⟩)
   (inv:=fun y=>y.1≤w.rt.length∧bef d w y.1=some y.2) (fun y=>w.rt.length-y.1) (0,0) [0,1] ⟨Nat.zero_le _,rfl⟩ (by dsimp only;rw [←hrl];(exact aL)) ?_
  rintro⟨i,s⟩ ⟨hi,hs⟩
  dsimp only at hi hs⊢
  have hb:=hbl i s hi hs
  by_cases hil:i<w.rt.length
  ·obtain⟨d1,d2,d3,d4⟩:=hdy i hil
   have b1:=hrb i hil
   have c1:=hrc i hil
   have grt:=ints_get (l:=w.rt) (j:=i) hil
   have gdl:=dls_get (d:=d) (i:=(w.rt.getD i 0).toNat) d1
   have gdd:=ints_get (l:=d.getD (w.rt.getD i 0).toNat []) (j:=w.cl.toNat) d2
   have hil2:=ints_len (d.getD (w.rt.getD i 0).toNat [])
   have hbn:bef d w (i+1)=if dly d w i<0 then none else some (s+(dly d w i).toNat):=by simp only [Np.bef,hs]
   have hrw:=hd.r (w.rt.getD i 0).toNat
   unfold dly at hbn d3 d4
   generalize w.rt.getD i 0=v at*
   generalize d.getD v.toNat []=row at*
   generalize row.getD w.cl.toNat 0=z at*
   (repeat' (conv=>whnf);first|refine⟨w.cl.toNat,_,by omega,gdd,?_⟩|refine⟨v.toNat,_,by omega,gdl,?_⟩|refine⟨i,_,rfl,grt,?_⟩|refine aC ?_ ?_<;>intro<;>try omega|refine z1_Y4 ?_|fail);all_goals try (conv=>whnf)
   ·rw [if_pos (by assumption)]at hbn
    exact⟨rfl,by rw [heo,bef_none hbn (by omega)];rfl⟩
   ·rw [if_neg (by assumption)]at hbn
    exact⟨(i+1,s+z.toNat),[0,1],⟨by dsimp only;omega,hbn⟩,by dsimp only;omega,by dsimp only;rw [show(w.rt.length:Int)-1+((s+z.toNat:Nat):Int)=(w.rt.length:Int)-1+(s:Int)+z by omega];(exact aL)⟩
  ·obtain rfl:i=w.rt.length:=by omega
   (repeat' (conv=>whnf);first|refine aC ?_ ?_<;>intro<;>try omega|refine z1_Y4 ?_|fail);all_goals try (conv=>whnf)
   exact⟨rfl,by rw [heo,hs];rfl⟩
 ·have heo:endO n d f=none:=if_neg hf
  rw [heo]
  (repeat' (conv=>whnf);first|refine aC ?_ ?_<;>intro<;>try omega|refine z1_Y4 ?_|(refine aK [] (rShape_ok n hn d hd) ?_)|fail);all_goals try (conv=>whnf)
  all_goals exact⟨rfl,rfl⟩
end
section
open Go.Sx Go.Np Go.Cv
abbrev Sz:=Int×Int
def sf (C:Nat) (g:Nat→Sz):List (List SV):=(List.range C).map fun j=>[i64 (g j).1,i64 (g j).2]
theorem sf_len {C:Nat} {g:Nat→Sz}:(sf C g).length =C:=by simp [sf]
theorem sf_succ {C:Nat} {g:Nat→Sz}:sf (C+1) g=sf C g++[[i64 (g C).1,i64 (g C).2]]:=by simp [sf,List.range_succ]
noncomputable def szC (n:Nt) (l:Int):Nat:=if chkN n≠0∨l<0∨(n.ln.length:Int)≤l then 0 else(n.ln.getD l.toNat ln0).n.toNat
noncomputable def szR (n:Nt) (l:Int):List (List SV):=sf (szC n l) fun c=>szs n (members n l c)
theorem chk_n {n:Nt} (h:chkN n=0) {i:Nat} (hi:i<n.ln.length):1≤(n.ln.getD i ln0).n ∧(n.ln.getD i ln0).n ≤6:=by
 have:=(chkN_zero h).2.2.1 i hi
 unfold lineE at this
 split at this
 ·contradiction
 ·unfold lnErr at this
  split at this
  ·omega
  ·split at this<;>omega
theorem chk_f {n:Nt} (h:chkN n=0):n.fl.length≤10:=by have:=(chkN_zero h).1;omega
theorem szs_snoc {n:Nt} {m:List Int} {k:Nat} (h:k<m.length):szs n (m.take (k+1))=if k=0 then((n.fl.getD (m.getD k 0).toNat fl0).lo,(n.fl.getD (m.getD k 0).toNat fl0).hi)else(min (szs n (m.take k)).1 (n.fl.getD (m.getD k 0).toNat fl0).lo,max (szs n (m.take k)).2 (n.fl.getD (m.getD k 0).toNat fl0).hi):=by
 rw [take_succ' (d:=0) h]
 split
 ·rename_i e;subst e;rfl
 ·rw [szs_step]
  intro e
  have:=congrArg List.length e
  rw [List.length_take]at this
  simp only [List.length_nil]at this
  omega
theorem z2_N11 {G H:Prop} (k:H) (h:H→G:=by first|exact fun r=>aS r|exact fun r=>aG r|exact fun r=>aD r|exact fun r=>aP_R1 r|exact fun r=>aI r|exact fun r=>aJ r|exact fun r=>aW (.qs [0,1,2,3,4,5,6,7,8] (.l 9 [8,5,1] (.l 10 [] .nil .no) .no)) r):G:=h k
theorem z1_N11 {G H:Prop} (k:H) (h:H→G:=by first|exact fun r=>aS r|exact fun r=>aG r|exact fun r=>aD r|exact fun r=>aH r|exact fun r=>aP_R1 r|exact fun r=>aI r|exact fun r=>aJ r|exact fun r=>aW (.qs [0,1,2,3,4,5,6,7,8] (.l 9 [8,5,1] (.l 10 [] .nil .no) .no)) r):G:=h k
theorem rSizes_ok (n:Nt) (hn:NL n) (l:Int):Ctr Tryz.prog 92 [ntv n,i64 l] [] (fun r o=>o=[]∧r= .psl 2 (szR n l)):=by
 refine Ctr.imp ?_
 refine fI 0 Tryz.func92 ?_
 have hll:=lnl n.ln
 have hfl:=fll n.fl
 have h2:=hn.ln
 have cC:=rCheck_ok n hn
 have z0:chkN n≠0∨l<0∨(n.ln.length:Int)≤l→szR n l=[]:=fun h=>by unfold szR szC;rw [if_pos h];rfl
 have z1:¬(chkN n≠0∨l<0∨(n.ln.length:Int)≤l)→szR n l=sf (n.ln.getD l.toNat ln0).n.toNat fun c=>szs n (members n l c):=fun h=>by unfold szR szC;rw [if_neg h]
 have c0:chkN n=0→n.fl.length≤10:=chk_f
 have c1:chkN n=0→∀i<n.ln.length,1≤(n.ln.getD i ln0).n ∧(n.ln.getD i ln0).n ≤6:=fun h i hi=>chk_n h hi
 generalize szR n l=Z at*
 generalize chkN n=E at*
 (repeat' (conv=>whnf);first|(refine Gh.mk [.fa] ?_;(conv=>whnf);refine⟨rfl,?_⟩;rw [z0 (by omega)];exact Imp.refl _)|refine aC ?_ ?_<;>intro<;>try omega|refine z1_N11 ?_|(refine aK [] cC ?_)|fail);all_goals try (conv=>whnf)
 have z1:=z1 (by omega)
 have c0:=c0 (by omega)
 have hil:l.toNat<n.ln.length:=by omega
 have c1:=c1 (by omega) _ hil
 have hg:=lng hil
 generalize n.ln.getD l.toNat ln0=g at*
 clear z0
 obtain⟨C,hC⟩:∃C:Nat,g.n=C:=⟨g.n.toNat,by omega⟩
 rw [hC,Int.toNat_natCast]at z1
 rw [hC]at c1
 (repeat' (conv=>whnf);first|refine aC ?_ ?_<;>intro<;>try omega|refine z1_N11 ?_|fail);all_goals try (conv=>whnf)
 have hmx:∀c:Nat,(members n l c).length ≤n.fl.length:=fun c=>Nat.le_trans mbr_len usr_len
 generalize hG:(fun c:Nat=>szs n (members n l c))=G at*
 refine LoopOb.mk (Y:=Nat) (st:=fun c=>⟨[(6,i64 c),(5, .vec 1),(2, .ptr 0 0),(1,i64 l)],[.box [.psl 1 (strs n.nm), .psl 5 (lns n.ln), .psl 8 (fls n.fl)], .vec 2 (sf c G)]⟩)
  (inv:=fun c=>c≤C) (fun c=>C-c) 0 [0,2] (by omega) (by(exact aL)) ?_
 intro c hc
 have hsl:=sf_len (C:=c) (g:=G)
 (repeat' (conv=>whnf);first|refine z1_N11 ?_|refine⟨l.toNat,_,by omega,hg,?_⟩|fail);all_goals try (conv=>whnf)
 rw [hC]
 refine CondOb.mk (fun hlt=>?_) (fun hlt=>?_)
 ·have hcC:c<C:=by omega
  have hGc:szs n (members n l c)=G c:=by rw [←hG]
  have cM:=rMembers_ok n hn (by omega) l c
  have hbd:∀x∈members n l c,0≤x∧x<n.fl.length:=fun x hx=>users_bd (mem_mbr.1 hx).1
  have hml:=hmx c
  generalize members n l c=m at*
  have hmi:=ints_len m
  (repeat' (conv=>whnf);first|refine aC ?_ ?_<;>intro<;>try omega|refine z1_N11 ?_|(refine aK [] cM ?_)|fail);all_goals try (conv=>whnf)
  refine LoopOb.mk (Y:=Nat) (st:=fun k=>⟨[(9,i64 k),(8, .psl 1 (ints m)),(7, .ptr 2 0),(6,i64 c),(5, .vec 1),(2, .ptr 0 0),(1,i64 l)],[.box [.psl 1 (strs n.nm), .psl 5 (lns n.ln), .psl 8 (fls n.fl)], .vec 2 (sf c G), .box [i64 (szs n (m.take k)).1,i64 (szs n (m.take k)).2]]⟩)
   (inv:=fun k=>k≤m.length) (fun k=>m.length-k) 0 [0,1,2] (by omega) (by rw [List.take_zero];(exact aL)) ?_
  intro k hk
  (repeat' (conv=>whnf);first|refine z1_N11 ?_|fail);all_goals try (conv=>whnf)
  refine CondOb.mk (fun hlt2=>?_) (fun hlt2=>?_)
  ·have hkl:k<m.length:=by omega
   have hsn:=szs_snoc (n:=n) hkl
   have hx:=hbd _ (getD_in (d:=0) hkl)
   have hgf:=flg (l:=n.fl) (i:=(m.getD k 0).toNat) (by omega)
   generalize n.fl.getD (m.getD k 0).toNat fl0=f at*
   generalize szs n (m.take k)=z at*
   (repeat' (conv=>whnf);first|refine aC ?_ ?_<;>intro<;>try omega|refine z1_N11 ?_|refine⟨(m.getD k 0).toNat,_,by omega,hgf,?_⟩|fail);all_goals try (conv=>whnf)
   ·rw [if_pos (by omega)]at hsn
    exact⟨k+1,[0,1,2],by omega,by omega,by rw [hsn];(exact aL)⟩
   ·rw [if_neg (by omega)]at hsn
    exact⟨k+1,[0,1,2],by omega,by omega,by rw [hsn];(exact aL)⟩
  ·rw [List.take_of_length_le (show m.length≤k by omega),hGc]
   (repeat' (conv=>whnf);first|refine aC ?_ ?_<;>intro<;>try omega|refine z1_N11 ?_|fail);all_goals try (conv=>whnf)
   exact⟨c+1,[0,4],by omega,by omega,by rw [sf_succ];(exact aL)⟩
 ·have e:c=C:=by omega
  subst e
  (repeat' (conv=>whnf);first|refine aC ?_ ?_<;>intro _|refine z2_N11 ?_|fail);all_goals try (conv=>whnf)
  refine .mk [.fz 1] ?_
  (repeat' (conv=>whnf);first|refine aC ?_ ?_<;>intro _|refine z1_N11 ?_|fail);all_goals try (conv=>whnf)
  refine⟨rfl,?_⟩
  rw [z1]
  exact Imp.refl _
end
section
open Go.Sx Go.Cv Go.Gd Go.Np Go.Pk Go.St Go.Mc Go.Tp
theorem tServe_ok (c:Int) (hc:1≤c∧c≤4000):Ctr Tryz.prog 144 [i64 c] [] (fun r o=>o=[]∧r= .tup [crv [0] 1 c,i64 0]):=by
 refine Ctr.imp ?_
 refine fI 0 Tryz.func144 ?_
 (repeat' (conv=>whnf);first|refine LitOb.ful ?_|refine aC ?_ ?_<;>intro<;>try omega|refine z1_R1 ?_|fail);all_goals try (conv=>whnf)
 exact⟨rfl,Imp.tup ⟨Imp.agg ⟨Imp.fulp rfl,Imp.refl _,Imp.refl _,trivial⟩,Imp.refl _,trivial⟩⟩
theorem tFirst_ok (c v:Int) (hc:1≤c∧c≤4000) (hv:0≤v∧v≤1000000):Ctr Tryz.prog 153 [crv [0] 1 c,i64 v] [] (fun r o=>o=[]∧r= .tup [i64 (if v≤0 then 0 else(v-1)/c+1), .bl true]):=by
 refine fI 0 Tryz.func153 ?_
 (repeat' (conv=>whnf);first|refine aC ?_ ?_<;>intro<;>try omega|refine z1_Y3 ?_|fail);all_goals try (conv=>whnf)
 refine LoopOb.mk (Y:=Nat) (st:=fun i=>⟨[(6,i64 i),(5, .bl false),(4,i64 0),(2, .ptr 0 0),(1,i64 v)],[.box [.psl 1 (ints [0]),i64 1,i64 c]]⟩)
  (inv:=fun i=>i≤1∧(1≤i→0<v)) (fun i=>1-i) 0 [0] ⟨by omega,by omega⟩ (by(exact aL)) ?_
 rintro i ⟨hi,hv0⟩
 have hg0:(ints [0])[0]? =some [i64 0]:=rfl
 have hil:(ints [0]).length =1:=rfl
 rcases(show i=0∨i=1 by omega)with rfl|rfl
 ·(repeat' (conv=>whnf);first|refine⟨0,_,rfl,hg0,?_⟩|refine aC ?_ ?_<;>intro<;>try omega|refine z1_Y3 ?_|fail);all_goals try (conv=>whnf)
  all_goals first
   |exact⟨rfl,by rw [if_pos (by omega)];rfl⟩
   |exact⟨1,[0],⟨by omega,fun _=>by omega⟩,by omega,by(exact aL)⟩
   |trace_state
 ·have hv1:=hv0 (by omega)
  have hd:=tdiv_bd (a:=v-0-1) (b:=c) (by omega) hc.1
  have hq:(v-0-1).tdiv c=(v-1)/c:=by rw [hd.1];simp
  have hq2:0≤(v-1)/c∧(v-1)/c≤v-1:=by have:=hd.2;rw [show v-0-1=v-1 by omega]at this;exact this
  rw [if_neg (by omega)]
  (repeat' (conv=>whnf);first|refine aC ?_ ?_<;>intro<;>try omega|refine z1_Y3 ?_|fail);all_goals try (conv=>whnf)
  refine LoopOb.mk (Y:=Nat) (st:=fun t=>⟨[(8,i64 t),(7,i64 (if t=0 then-1 else(v-1)/c+1)),(2, .ptr 0 0),(1,i64 v)],[.box [.psl 1 (ints [0]),i64 1,i64 c]]⟩)
   (inv:=fun t=>t≤1) (fun t=>1-t) 0 [0] (by omega) (by(exact aL)) ?_
  rintro t ht
  rcases(show t=0∨t=1 by omega)with rfl|rfl
  ·rw [if_pos rfl]
   (repeat' (conv=>whnf);first|refine⟨0,_,rfl,hg0,?_⟩|refine aC ?_ ?_<;>intro<;>try omega|refine z1_Y3 ?_|fail);all_goals try (conv=>whnf)
   refine And.intro (by omega) ?_
   (repeat' (conv=>whnf);first|refine aC ?_ ?_<;>intro<;>try omega|refine z1_Y3 ?_|fail);all_goals try (conv=>whnf)
   all_goals first
    |exact⟨1,[0],by omega,by omega,by rw [if_neg (by decide)];(exact aL)⟩
    |trace_state
  ·rw [if_neg (by decide)]
   (repeat' (conv=>whnf);first|refine aC ?_ ?_<;>intro<;>try omega|refine z1_Y3 ?_|fail);all_goals try (conv=>whnf)
   exact⟨rfl,rfl⟩
theorem tFlat0:Ctr Tryz.prog 181 [i64 0] [] (fun r o=>o=[]∧r= .tup [crv [0] 1 0,i64 0]):=
 (RFlat_ok 0).mono (fun r o ⟨x,h1,h2,h3⟩=>⟨h2,by rw [h3,mk_zero (flatQ_zero h1)]⟩)
theorem bur_sum {B:Int} (hB:1≤B∧B≤1073741824):SumX ([0],1,0) ([0,B],1,0) ([0,B],1,0,0):=by
 have v0:=line_vf (c:=0) (by decide) (by decide)
 have v1:=bur_vf hB.1 hB.2
 have f0:FinC ([0],1,0):=by show([0]:List Int).getD 0 0≠INF;decide
 have f1:FinC ([0,B],1,0):=by show([0,B]:List Int).getD 1 0≠INF;simp only [List.getD_cons_succ,List.getD_cons_zero,INF];omega
 have e0:cv ([0],1,0)=fun t:Nat=>(0:Int)*t:=funext fun t=>line_cv (by decide) (by decide) t
 have e1:cv ([0,B],1,0)=burF B:=funext fun t=>bur_cv hB.1 hB.2 t
 refine⟨([0],1,0),([0,B],1,0),⟨v0,fun _=>rfl,fun h=>h,by rw [e0];exact nf_line⟩,⟨v1,fun _=>rfl,fun h=>h,by rw [e1];exact nf_bur hB.1⟩, .inl ⟨by show Nat.lcm 1 1≤120;decide, .inl ⟨_,1,_,?_,v1,rfl⟩⟩⟩
 have:pl2 ([0],1,0) ([0,B],1,0)=burF B:=funext fun t=>by unfold pl2;rw [e0,e1];simp
 rw [this];exact nf_bur hB.1
end
end Go.Proofs.YtjhmjiimpmmnhaaGreat
