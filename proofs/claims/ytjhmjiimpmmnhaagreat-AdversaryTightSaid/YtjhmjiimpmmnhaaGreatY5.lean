/- Lemmas of this seat. Conditions: as stated. -/
import Derived.Test.YtjhmjiimpmmnhaaGreatY1
import Derived.Test.YtjhmjiimpmmnhaaGreatN10
set_option linter.unusedVariables false
set_option linter.unusedSimpArgs false
set_option maxHeartbeats 2000000
set_option maxRecDepth 4000
namespace Go.Proofs.YtjhmjiimpmmnhaaGreat
section
open Go.Sx Go.Np Go.Cv Go.Tp
theorem rAtL_ok (n:Nt) (hn:NL n) (d:List (List Int)) (hd:DL d) (f h:Int):Ctr Tryz.prog 139 [ntv n, .psl 1 (dls d),i64 f,i64 h] [] (fun r o=>∃x,AtP n d f h x∧o=[]∧r=crvE x):=by
 refine Ctr.impE ?_
 refine fI 0 Tryz.func139 ?_
 have cS:=rShape_ok n hn d hd
 have cB:=rBefore_ok n hn d hd f h
 have hfl:=fll n.fl
 by_cases hA:ShapeP n d∧HopP n f h
 ·rw [befP_t hA]at cB
  obtain⟨hs,hP⟩:=hA
  have hP':=hP
  obtain⟨h1,h2,h3,h4⟩:=hP'
  obtain⟨i,rfl⟩:=Int.eq_ofNat_of_zero_le h1
  obtain⟨k,rfl⟩:=Int.eq_ofNat_of_zero_le h3
  have hx:∀x,AtP n d i k x↔((bef d (n.fl.getD i fl0) k=none∧x=([],0,0,5))∨∃s,bef d (n.fl.getD i fl0) k=some s∧MkP (ahd (ctc (n.fl.getD i fl0)) s) x):=fun x=>by
   unfold AtP;rw [Int.toNat_natCast,Int.toNat_natCast]
   constructor
   ·rintro(⟨a,_⟩|⟨_,a,_⟩|⟨_,_,a⟩)
    ·exact absurd hs a
    ·exact absurd hP a
    ·exact a
   ·exact fun a=> .inr (.inr ⟨hs,hP,a⟩)
  rw [Int.toNat_natCast]at h4 cB
  rw [Int.toNat_natCast]at cB
  have hil:i<n.fl.length:=by omega
  have hg:=flg hil
  obtain⟨hv,hfi,hp,_⟩:=chk_ct hs.c i hil
  have hle:=fun s=>bef_le hs (chk_fl hs.c i hil) (i:=k) (s:=s) (by omega)
  have hr4:=(chk_fl hs.c i hil).l2
  generalize n.fl.getD i fl0=g at*
  have hil2:=ints_len g.rt
  obtain⟨p,hpe⟩:=Int.eq_ofNat_of_zero_le (show 0≤g.p by omega)
  cases hbe:bef d g k with
  |none=>
   rw [hbe]at cB
   dsimp only [befR]at cB
   (repeat' (conv=>whnf);first|refine⟨i,_,rfl,hg,?_⟩|refine aC ?_ ?_<;>intro<;>try omega|refine z1_R1 ?_|(refine aK [] cS ?_)|(refine aK [] cB ?_)|fail);all_goals try (conv=>whnf)
   all_goals first
    |exact⟨([],0,0,5),(hx _).2 (.inl ⟨hbe,rfl⟩),rfl,Imp.tup ⟨imp_zero,Imp.refl _,trivial⟩⟩
    |(exfalso;first|contradiction|exact absurd hs (by assumption)|exact absurd hP (by assumption)|omega)
    |trace_state
  |some s=>
   rw [hbe]at cB
   dsimp only [befR]at cB
   have hs2:=hle s hbe
   have cA:Ctr Tryz.prog 178 [crv g.v g.p g.q,i64 s] [] (fun r o=>∃x1 x2 x3 x4,MkP (ahd (ctc g) s) (x1,x2,x3,x4)∧o=[]∧r= .tup [crv x1 x2 x3,i64 x4]):=by
    have:=rAhead_ok (ctc g) hv hfi s (by omega)
    rw [show(((ctc g).2.1 :Nat):Int)=g.p by show((g.p.toNat:Nat):Int)=g.p;omega]at this
    exact this.mono (fun r o ⟨⟨x1,x2,x3,x4⟩,a,b,c⟩=>⟨x1,x2,x3,x4,a,b,c⟩)
   (repeat' (conv=>whnf);first|refine⟨i,_,rfl,hg,?_⟩|refine aC ?_ ?_<;>intro<;>try omega|refine z1_R1 ?_|(refine aK [] cS ?_)|(refine aK [] cB ?_)|(refine aM [] cA rfl rfl ?_;rintro _ _ ⟨x1,x2,x3,x4,hmk,rfl,rfl⟩)|fail);all_goals try (conv=>whnf)
   all_goals first
    |exact⟨(x1,x2,x3,x4),(hx _).2 (.inr ⟨s,hbe,hmk⟩),rfl,Imp.refl _⟩
    |(exfalso;first|contradiction|exact absurd hs (by assumption)|exact absurd hP (by assumption)|omega)
    |trace_state
 ·(repeat' (conv=>whnf);first|refine⟨f.toNat,_,by omega,flg (show f.toNat<n.fl.length by omega),?_⟩|refine aC ?_ ?_<;>intro<;>try omega|refine z1_R1 ?_|(refine aK [] cS ?_)|fail);all_goals try (conv=>whnf)
  all_goals try exact⟨([],0,0,6), .inl ⟨by assumption,rfl⟩,rfl,Imp.tup ⟨imp_zero,Imp.refl _,trivial⟩⟩
  all_goals
   have hSp:ShapeP n d:=Classical.not_not.1 (by assumption)
   have hil:=ints_len (n.fl.getD f.toNat fl0).rt
   have hno:¬HopP n f h:=fun k=>hA ⟨hSp,k⟩
  all_goals first
   |(refine⟨([],0,0,2), .inr (.inl ⟨hSp,hno,rfl⟩),rfl,Imp.tup ⟨imp_zero,Imp.refl _,trivial⟩⟩;done)
   |exact absurd (show HopP n f h from⟨by omega,by omega,by omega,by omega⟩) hno
end
section
open Go.Sx Go.Np Go.Cv Go.Tp
abbrev toX (y:C3×Int):E4:=(y.1.1,(y.1.2.1:Int),y.1.2.2,y.2)
theorem toX_inj {y z:C3×Int} (h:toX y=toX z):y=z:=by
 obtain⟨⟨a,b,c⟩,e⟩:=y
 obtain⟨⟨a',b',c'⟩,e'⟩:=z
 simp only [toX,Prod.mk.injEq]at h
 obtain⟨rfl,h2,rfl,rfl⟩:=h
 have:b=b':=by omega
 subst this;rfl
abbrev zE (e:Int):C3×Int:=(([],0,0),e)
inductive FoldR (F:Nat→C3→C3×Int→Prop) (n:Nat):Nat→C3→C3×Int→Prop
 |stop (a:C3):FoldR F n n a (a,0)
 |go {i:Nat} {a:C3} {x y:C3×Int}:i<n→F i a x→x.2=0→FoldR F n (i+1) x.1 y→FoldR F n i a y
 |err {i:Nat} {a:C3} {x:C3×Int}:i<n→F i a x→x.2≠0→FoldR F n i a (zE x.2)
theorem FoldR.uniq {F:Nat→C3→C3×Int→Prop} {n:Nat} {I:C3→Prop} (hF:∀i a x y,F i a x→F i a y→x=y):∀{i:Nat} {a:C3} {y z:C3×Int},FoldR F n i a y→FoldR F n i a z→y=z:=by
 intro i a y z h
 induction h with
 |stop a=>intro k;cases k with
  |stop=>rfl
  |go h=>omega
  |err h=>omega
 |go h1 h2 h3 _ ih=>intro k;cases k with
  |stop=>omega
  |go k1 k2 k3 k4=>cases hF _ _ _ _ h2 k2;exact ih k4
  |err k1 k2 k3=>cases hF _ _ _ _ h2 k2;exact absurd h3 k3
 |err h1 h2 h3=>intro k;cases k with
  |stop=>omega
  |go k1 k2 k3 k4=>cases hF _ _ _ _ h2 k2;exact absurd k3 h3
  |err k1 k2 k3=>cases hF _ _ _ _ h2 k2;rfl
def StepR (n:Nt) (d:List (List Int)) (line x:Int) (a:C3) (y:C3×Int):Prop:=
 ∃c:C3×Int,AtP n d x (hop n x line) (toX c)∧((c.2≠0∧y=zE c.2)∨(c.2=0∧SumX a c.1 (toX y)))
theorem atP_uniq {n:Nt} {d:List (List Int)} {f h:Int} {x y:E4} (hx:AtP n d f h x) (hy:AtP n d f h y):x=y:=by
 rcases hx with⟨a,rfl⟩|⟨a,b,rfl⟩|⟨a,b,h⟩<;>rcases hy with⟨a',rfl⟩|⟨a',b',rfl⟩|⟨a',b',h'⟩
 ·rfl
 ·exact absurd a' a
 ·exact absurd a' a
 ·exact absurd a a'
 ·rfl
 ·exact absurd b' b
 ·exact absurd a a'
 ·exact absurd b b'
 ·rcases h with⟨h1,rfl⟩|⟨s,h1,h2⟩<;>rcases h' with⟨k1,rfl⟩|⟨s',k1,k2⟩
  ·rfl
  ·rw [h1]at k1;cases k1
  ·rw [h1]at k1;cases k1
  ·rw [h1]at k1;cases k1;exact h2.uniq k2
theorem StepR.uniq {n:Nt} {d:List (List Int)} {line x:Int} {a:C3} {y z:C3×Int} (h:StepR n d line x a y) (k:StepR n d line x a z):y=z:=by
 obtain⟨c,h1,h2⟩:=h
 obtain⟨c',k1,k2⟩:=k
 cases toX_inj (atP_uniq h1 k1)
 rcases h2 with⟨h2,rfl⟩|⟨h2,h3⟩<;>rcases k2 with⟨k2,rfl⟩|⟨k2,k3⟩
 ·rfl
 ·exact absurd k2 h2
 ·exact absurd h2 k2
 ·exact toX_inj (h3.uniq k3)
abbrev Good (a:C3):Prop:=VC a∧FinC a
theorem fin_of {c:C3} (hc:VC c) (h:cv c (c.1.length-1)≤4000000000000000):FinC c:=fun hi=>by
 have h6:=VF.val_inf hc hi hi (t:=c.1.length-1) (Nat.le_refl _)
 unfold cv at h
 rw [h6]at h
 simp only [INF]at h
 omega
theorem mk_good {F:Nat→Int} {y:C3×Int} (h:MkP F (toX y)) (he:y.2=0) (hb:∀t,t≤1000→F t≤4000000000000000):Good y.1∧∀t,cv y.1 t=F t:=by
 obtain⟨c,h1,_,h2,h3⟩:=mk_read h he
 have e:y=(c,0):=toX_inj (y:=y) (z:=(c,0)) h2
 subst e
 have:=h1.n2
 exact⟨⟨h1,fin_of h1 (by rw [h3];exact hb _ (by dsimp only;omega))⟩,h3⟩
theorem atP_good {n:Nt} {d:List (List Int)} {f h:Int} {y:C3×Int} (hx:AtP n d f h (toX y)) (he:y.2=0):Good y.1:=by
 rcases hx with⟨a,h⟩|⟨a,b,h⟩|⟨a,b,h⟩
 ·have:=congrArg (fun z=>z.2.2.2) h;dsimp only at this;omega
 ·have:=congrArg (fun z=>z.2.2.2) h;dsimp only at this;omega
 ·rcases h with⟨_,h⟩|⟨s,h1,h2⟩
  ·have:=congrArg (fun z=>z.2.2.2) h;dsimp only at this;omega
  ·obtain⟨b1,b2,b3,b4⟩:=b
   obtain⟨hv,hfi,hp,_⟩:=chk_ct a.c f.toNat (by omega)
   have hle:=bef_le a (chk_fl a.c f.toNat (by omega)) (i:=h.toNat) (s:=s) (by omega) h1
   have hr4:=(chk_fl a.c f.toNat (by omega)).l2
   exact(mk_good h2 he fun t ht=>by have:=ahd_bd hv hfi (d:=s) (t:=t) (by omega);omega).1
theorem StepR.good {n:Nt} {d:List (List Int)} {line x:Int} {a:C3} {y:C3×Int} (h:StepR n d line x a y) (ha:Good a) (he:y.2=0):Good y.1:=by
 obtain⟨c,h1,h2⟩:=h
 rcases h2 with⟨h2,rfl⟩|⟨h2,a',b',_,_,h3⟩
 ·exact absurd he h2
 ·have hc:=atP_good h1 h2
  rcases h3 with⟨_,h3⟩|⟨_,h3⟩
  ·exact(mk_good h3 he fun t ht=>(pl2_bd ha.1 hc.1 ha.2 hc.2 (t:=t) (by omega)).2).1
  ·have:=congrArg (fun z=>z.2.2.2) h3;dsimp only at this;omega
def ClsP (n:Nt) (d:List (List Int)) (l c:Int) (y:C3×Int):Prop:=
 (¬ShapeP n d∧y=zE 6)∨(ShapeP n d∧¬(0≤l∧l<n.ln.length∧0≤c∧c<(n.ln.getD l.toNat ln0).n)∧y=zE 2)∨
 (ShapeP n d∧(0≤l∧l<n.ln.length∧0≤c∧c<(n.ln.getD l.toNat ln0).n)∧FoldR (fun i a y=>StepR n d l ((members n l c).getD i 0) a y) (members n l c).length 0 ([0],1,0) y)
theorem ClsP.uniq {n:Nt} {d:List (List Int)} {l c:Int} {y z:C3×Int} (h:ClsP n d l c y) (k:ClsP n d l c z):y=z:=by
 rcases h with⟨a,rfl⟩|⟨a,b,rfl⟩|⟨a,b,h⟩<;>rcases k with⟨a',rfl⟩|⟨a',b',rfl⟩|⟨a',b',h'⟩
 ·rfl
 ·exact absurd a' a
 ·exact absurd a' a
 ·exact absurd a a'
 ·rfl
 ·exact absurd b' b
 ·exact absurd a a'
 ·exact absurd b b'
 ·exact FoldR.uniq (I:=fun _=>True) (fun i a x y h k=>h.uniq k) h h'
theorem zero_good:Good ([0],1,0):=by
 have h:VC ([0],1,0):=by
  constructor<;>simp
  intro j k h1 h2;subst h2;have:j=0:=by omega
  subst this;exact Int.le_refl _
 exact⟨h,by unfold FinC;simp [INF]⟩
theorem atC_of {g:Nat} {vs:List SV} {P:E4→Prop} (h:Ctr Tryz.prog g vs [] (fun r o=>∃x,P x∧o=[]∧r=crvE x)) (hp:∀x,P x→0≤x.2.1):Ctr Tryz.prog g vs [] (fun r o=>∃y:C3×Int,P (toX y)∧o=[]∧r= .tup [crv y.1.1 y.1.2.1 y.1.2.2,i64 y.2]):=
 h.mono fun r o ⟨⟨x1,x2,x3,x4⟩,h1,h2,h3⟩=>by
  obtain⟨p,rfl⟩:=Int.eq_ofNat_of_zero_le (hp _ h1)
  exact⟨((x1,p,x3),x4),h1,h2,h3⟩
theorem mk_pos {F:Nat→Int} {x:E4} (h:MkP F x):0≤x.2.1:=by
 rcases h with⟨vs,p,q,_,_,rfl⟩|⟨_,rfl⟩
 ·exact Int.natCast_nonneg _
 ·exact Int.le_refl _
theorem atP_pos {n:Nt} {d:List (List Int)} {f h:Int} {x:E4} (hx:AtP n d f h x):0≤x.2.1:=by
 rcases hx with⟨a,rfl⟩|⟨a,b,rfl⟩|⟨a,b,⟨_,rfl⟩|⟨s,_,h⟩⟩
 ·exact Int.le_refl _
 ·exact Int.le_refl _
 ·exact Int.le_refl _
 ·exact mk_pos h
theorem sumX_pos {f g:C3} {x:E4} (h:SumX f g x):0≤x.2.1:=by
 obtain⟨a,b,_,_,⟨_,h⟩|⟨_,rfl⟩⟩:=h
 ·exact mk_pos h
 ·exact Int.le_refl _
end
section
open Go.Sx Go.Np Go.Cv Go.Tp
theorem mbs_len (n:Nt) (l c:Int):(members n l c).length ≤n.fl.length:=by
 unfold members users
 exact Nat.le_trans mbr_len usr_len
end
section
open Go.Sx Go.Np Go.Cv Go.Tp
theorem rsumC_of {f g:C3} (hf:Good f) (hg:Good g):Ctr Tryz.prog 140 [crv f.1 f.2.1 f.2.2,crv g.1 g.2.1 g.2.2] [] (fun r o=>∃y:C3×Int,SumX f g (toX y)∧o=[]∧r= .tup [crv y.1.1 y.1.2.1 y.1.2.2,i64 y.2]):=
 atC_of (rSumX_ok f g hf.1 hg.1 hf.2 hg.2) (fun _ h=>sumX_pos h)
theorem rZero_ok:Ctr Tryz.prog 138 [] [] (fun r o=>o=[]∧r=crv [0] 1 0):=by
 refine Ctr.imp ?_
 refine fI 0 Tryz.func138 ?_
 (repeat' (conv=>whnf);first|refine aC ?_ ?_<;>intro<;>try omega|refine z2_J3 ?_|fail);all_goals try (conv=>whnf)
 refine .mk [.fa] ?_
 (repeat' (conv=>whnf);first|refine aC ?_ ?_<;>intro<;>try omega|refine z1_R1 ?_|fail);all_goals try (conv=>whnf)
 exact⟨rfl,Imp.refl _⟩
theorem z3_Y8 {G H:Prop} (k:H) (h:H→G:=by first|exact fun r=>aS r|exact fun r=>aG r|exact fun r=>aD r|exact fun r=>aH r|exact fun r=>aP_R1 r|exact fun r=>aI r|exact fun r=>aJ r|exact fun r=>aW (.qs [0,1,2,3,4,5,6,7,8,9,10,11] (.l 12 [5,0] (.l 13 [] (.qs [14,15,16] (.l 17 [] (.l 18 [] (.qs [19] .nil) .no) .no)) (.l 17 [5,0] (.l 13 [] (.qs [14,15,16] (.l 18 [] (.qs [19] .nil) .no)) .no) .no)) (.l 17 [10,6,5,0] (.l 12 [5,0] (.l 13 [] (.qs [14,15,16] (.l 18 [] (.qs [19] .nil) .no)) .no) .no) .no))) r):G:=h k
theorem rClassX_ok (n : Nt) (hn : NL n) (hb : n.fl.length ≤ 1000) (d : List (List Int)) (hd : DL d) (l c : Int) :
    Ctr Tryz.prog 115 [ntv n, .psl 1 (dls d), i64 l, i64 c] [] (fun r o => ∃ y : C3 × Int, ClsP n d l c y ∧ o = [] ∧ r = .tup [crv y.1.1 y.1.2.1 y.1.2.2, i64 y.2]) := by
  refine Ctr.impE ?_
  refine fI 0 Tryz.func115 ?_
  have hll := lnl n.ln
  by_cases hR : ShapeP n d ∧ (0 ≤ l ∧ l < n.ln.length ∧ 0 ≤ c ∧ c < (n.ln.getD l.toNat ln0).n)
  · obtain ⟨hS, hr⟩ := hR
    have hg := lng (l := n.ln) (i := l.toNat) (by omega)
    have hm : (members n l c).length ≤ 1000000 := by have := mbs_len n l c; omega
    have cM := rMembers_ok n hn hb l c
    have hY : ∀ y, FoldR (fun i a y => StepR n d l ((members n l c).getD i 0) a y) (members n l c).length 0 ([0], 1, 0) y → ClsP n d l c y := fun y h => .inr (.inr ⟨hS, hr, h⟩)
    generalize members n l c = ms at *
    have hml := ints_len ms
    generalize n.ln.getD l.toNat ln0 = ll at *
    (repeat' (conv => whnf); first | refine ⟨l.toNat, _, by omega, hg, ?_⟩ | refine aC ?_ ?_ <;> intro <;> try omega | refine z1_R1 ?_ | (refine aK [] (rShape_ok n hn d hd) ?_) | (refine aK [] (rZero_ok) ?_) | (refine aK [] cM ?_) | fail); all_goals try (conv => whnf)
    all_goals try exact absurd hS (by assumption)
    refine LoopOb.mk (Y := Nat × C3) (st := fun y => ⟨[(12, i64 y.1), (11, .psl 1 (ints ms)), (10, .ptr 2 0), (9, i64 0), (8, .ptr 1 0), (4, .ptr 0 0), (1, .psl 1 (dls d)), (2, i64 l)], [.box [.psl 1 (strs n.nm), .psl 5 (lns n.ln), .psl 8 (fls n.fl)], .box [.nil, i64 0, i64 0], .box [.psl 1 (ints y.2.1), i64 y.2.2.1, i64 y.2.2.2]]⟩)
      (inv := fun y => y.1 ≤ ms.length ∧ Good y.2 ∧ ∀ z, FoldR (fun i a y => StepR n d l (ms.getD i 0) a y) ms.length y.1 y.2 z → ClsP n d l c z) (fun y => ms.length - y.1) (0, ([0], 1, 0)) [0, 1, 2] ⟨by simp, zero_good, hY⟩ (by (exact aL)) ?_
    rintro ⟨i, a⟩ ⟨hi, hI, hz⟩
    dsimp only at hi hI hz ⊢
    (repeat' (conv => whnf); first | refine z1_R1 ?_ | fail); all_goals try (conv => whnf)
    refine CondOb.mk (fun hlt => ?_) (fun hlt => ?_)
    · have hil : i < ms.length := by omega
      have hgm := ints_get hil
      have hC := fun (x : C3 × Int) (h : StepR n d l (ms.getD i 0) a x) => h
      generalize hxe : ms.getD i 0 = x at *
      have cH := rHop_ok n hn x l
      have cA := atC_of (rAtL_ok n hn d hd x (hop n x l)) (fun _ h => atP_pos h)
      have hgo : ∀ b : C3, StepR n d l x a (b, 0) → ∀ z, FoldR (fun i a y => StepR n d l (ms.getD i 0) a y) ms.length (i + 1) b z → ClsP n d l c z := fun b hb z h => hz z (.go (x := (b, 0)) hil (by rw [hxe]; exact hb) rfl h)
      have her : ∀ b e, StepR n d l x a (b, e) → e ≠ 0 → ClsP n d l c (zE e) := fun b e hb he => hz _ (.err (x := (b, e)) hil (by rw [hxe]; exact hb) he)
      (repeat' (conv => whnf); first | refine ⟨i, _, rfl, hgm, ?_⟩ | refine aC ?_ ?_ <;> intro <;> try omega | refine z3_Y8 ?_ | (refine aK [] cH ?_) | (refine aM [] cA rfl rfl ?_; rintro _ _ ⟨⟨u, e⟩, hu, rfl, rfl⟩; dsimp only at hu ⊢) | (refine aM [] (rsumC_of hI (atP_good hu (show e = 0 by omega))) rfl rfl ?_; rintro _ _ ⟨⟨b, e2⟩, hb, rfl, rfl⟩; dsimp only at hb ⊢) | refine And.intro ?_ ?_ | fail); all_goals try (conv => whnf)
      all_goals first
        | (refine ⟨zE e, her ([], 0, 0) e ⟨(u, e), hu, .inl ⟨by assumption, rfl⟩⟩ (by assumption), rfl, Imp.tup ⟨imp_zero, Imp.refl _, trivial⟩⟩; done)
        | (refine ⟨zE e2, her b e2 ⟨(u, e), hu, .inr ⟨by omega, hb⟩⟩ (by assumption), rfl, Imp.tup ⟨imp_zero, Imp.refl _, trivial⟩⟩; done)
        | (obtain rfl : e2 = 0 := by omega
           have hst : StepR n d l x a (b, 0) := ⟨(u, e), hu, .inr ⟨by omega, hb⟩⟩
           exact ⟨(i + 1, b), [0, 1, 2], ⟨by dsimp only; omega, hst.good hI rfl, hgo b hst⟩, by dsimp only; omega, by (exact aL)⟩)
        | trace_state
    · have hil : i = ms.length := by omega
      subst hil
      (repeat' (conv => whnf); first | refine aC ?_ ?_ <;> intro <;> try omega | refine z1_R1 ?_ | fail); all_goals try (conv => whnf)
      exact ⟨(a, 0), hz _ (.stop a), rfl, Imp.refl _⟩
  · (repeat' (conv => whnf); first | refine ⟨l.toNat, _, by omega, lng (l := n.ln) (i := l.toNat) (by omega), ?_⟩ | refine aC ?_ ?_ <;> intro <;> try omega | refine z1_R1 ?_ | (refine aK [] (rShape_ok n hn d hd) ?_) | (refine aK [] (rZero_ok) ?_) | fail); all_goals try (conv => whnf)
    all_goals try exact ⟨zE 6, .inl ⟨by assumption, rfl⟩, rfl, Imp.tup ⟨imp_zero, Imp.refl _, trivial⟩⟩
    all_goals
      have hSp : ShapeP n d := Classical.not_not.1 (by assumption)
      have hno : ¬(0 ≤ l ∧ l < n.ln.length ∧ 0 ≤ c ∧ c < (n.ln.getD l.toNat ln0).n) := fun k => hR ⟨hSp, k⟩
    all_goals first
      | (refine ⟨zE 2, .inr (.inl ⟨hSp, hno, rfl⟩), rfl, Imp.tup ⟨imp_zero, Imp.refl _, trivial⟩⟩; done)
      | (exfalso; omega)
end
end Go.Proofs.YtjhmjiimpmmnhaaGreat
