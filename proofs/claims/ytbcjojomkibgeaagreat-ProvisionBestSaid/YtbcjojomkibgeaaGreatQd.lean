/- Lemmas of this seat. Conditions: as stated. -/
import Derived.Test.YtbcjojomkibgeaaGreatQb
import Derived.Test.YtbcjojomkibgeaaGreatQ15
import Derived.Test.YtbcjojomkibgeaaGreatQ4
import Derived.Test.YtbcjojomkibgeaaGreatQa
import Derived.Test.YtbcjojomkibgeaaGreatQ3a
set_option linter.unusedVariables false
set_option linter.unusedSimpArgs false
set_option maxHeartbeats 2000000
set_option maxRecDepth 4000
namespace Go.Proofs.YtbcjojomkibgeaaGreat
section
open Go.Sx Go.Fq Go.Dt
theorem rdc_cst {n m:Nat} {bs:Nat→Int} {f:Nat→Nat→Int} {k:Nat}:∀{i:Nat},i≤m→(∀a<i,bs a=n+m+a)→rdc (cst n m m) 1 bs f i k=cst n m m k-cs f i k
 |0,_,_=>by simp [rdc,cs]
 |i+1,hi,hb=>by
  have hbi:=hb i (by omega)
  simp only [rdc,cs]
  rw [rdc_cst (by omega) (fun a ha=>hb a (by omega))]
  have e:cst n m m (bs i).toNat =1:=by unfold cst;rw [if_pos (by omega)]
  rw [e];omega
theorem inj_of {p:Pr} {q q1 q2:Prop} {f:Nat→Nat→Int} {bs tu sl:Nat→Int} {co:Int} {g:Nat→Int} {F:Prop} (h:BuA p p.r.length q f bs tu sl co) (hq:¬q)
  (k:PrA F q1 q2 (cst p.c.length p.r.length p.r.length) 1 bs f p.r.length (nE p+1) g) (hq2:¬q2):
  Inj p (fun a=>tu a*sl a) (up2 f p.r.length g,bs,1):=by
 obtain⟨_,h2⟩:=h.ex hq
 obtain⟨_,k2⟩:=k.ex hq2
 have hr:∀a<p.r.length,(up2 f p.r.length g) a=f a:=fun a ha=>by funext b;unfold up2;rw [if_neg (by omega)]
 refine⟨fun i hi=>?_,fun i hi=>h.hs i hi,rfl,fun b hb=>?_⟩
 ·show RowJ _ _ _ _ _ ((up2 f p.r.length g) i)
  rw [hr i hi];exact h2 i hi
 ·show(up2 f p.r.length g) p.r.length b=_
  have e1:(up2 f p.r.length g) p.r.length b=g b:=by unfold up2;rw [if_pos rfl]
  have e2:∀i,i≤p.r.length→cs (up2 f p.r.length g) i b=cs f i b:=by
   intro i
   induction i with
   |zero=>intro _;rfl
   |succ i ih=>intro hi;simp only [cs];rw [ih (by omega),hr i (by omega)]
  rw [e1,k2 b (by unfold nE at*;omega),rdc_cst (Nat.le_refl _) h.hs,e2 _ (Nat.le_refl _)]
theorem rdc_red {p:Pr} {sc:Int} {s:TS} {c:Nat→Int} {k:Nat} (hc:∀a,c a=cc p sc a):∀{i:Nat},rdc c s.2.2 s.2.1 s.1 i k=red p sc s i k
 |0=>by simp only [rdc,red];rw [hc]
 |i+1=>by simp only [rdc,red];rw [rdc_red hc,hc]
theorem ti_cost {p:Pr} {s0 s2:TS} {co:Nat→Int} {sc:Int} {g:Nat→Int} (I:TI p s0 co s2) (hg:∀k<nE p+1,g k=red p sc s2 p.r.length k):
  TI p s0 (cc p sc) (up2 s2.1 p.r.length g,s2.2):=by
 have J:=I.inv
 have hr:∀a<p.r.length,∀b,(up2 s2.1 p.r.length g) a b=s2.1 a b:=fun a ha b=>by unfold up2;rw [if_neg (by omega)]
 refine⟨⟨J.d0,J.bsw,J.det,?_,?_,?_,?_⟩,I.bs⟩
 ·intro k' hk l hl
  refine(J.col k' hk l hl).trans (sI_congr fun j hj=>?_)
  show s2.1 j k'*_=up2 s2.1 p.r.length g j k'*_
  rw [hr j hj]
 ·intro i hi j hj
  show up2 s2.1 p.r.length g i _=_
  rw [hr i hi];exact J.bas i hi j hj
 ·intro i hi k' hk
  show up2 s2.1 p.r.length g i _=sI _ fun l=>up2 s2.1 p.r.length g i _*_
  rw [hr i hi,J.row i hi k' hk]
  exact sI_congr fun l hl=>by rw [hr i hi]
 ·intro k' hk
  show up2 s2.1 p.r.length g _ _=s2.2.2*_-sI _ fun i=>_*up2 s2.1 p.r.length g i _
  have e:up2 s2.1 p.r.length g p.r.length k'=g k':=by unfold up2;rw [if_pos rfl]
  rw [e,hg k' hk,red_eq]
  congr 1
  exact sI_congr fun j hj=>by rw [hr j hj]
theorem qh2_of {p:Pr} {sc:Int} {s1 s2 s4:TS} {g:Nat→Int} {z:Int} (ho:s1.1 p.r.length (nE p)=0) (ha:Arw p.r.length (nE p+1) (nC p) s1 s2) (hz:∀a<p.r.length,(nC p:Int)≤s2.2.1 a→∀j<nC p,s2.1 a j=0)
  (h1:1≤sc) (hd:∀f∈p.c,f.2∣sc) (hg:∀k<nE p+1,g k=red p sc s2 p.r.length k) (hr:Ruw p.r.length (nE p) (nC p) (up2 s2.1 p.r.length g,s2.2) s4) (he:Ends p.r.length (nC p) s4.1 z):
  Qh2 p sc s1 s2 (up2 s2.1 p.r.length g,s2.2) s4 z:=
 ⟨ho,ha,hz,h1,hd,fun i hi k _=>by show up2 s2.1 p.r.length g i k=_;unfold up2;rw [if_neg (by omega)],fun k hk=>by
  show up2 s2.1 p.r.length g p.r.length k=_
  unfold up2;rw [if_pos rfl];exact hg k hk,rfl,hr,he⟩
theorem ph1_le {p:Pr} {by':Nat→Int} {s0 s1:TS} {z:Int} (h:Qh1 p by' s0 s1 z):s1.1 p.r.length (nE p)≤0:=by
 obtain⟨I,hn,hc⟩:=ph1_cost h
 have e:=I.inv.cost (nE p) (by omega)
 rw [show cst p.c.length p.r.length p.r.length (nE p)=0 by unfold cst;rw [if_neg (by unfold nE;omega)],Int.mul_zero]at e
 have:0≤sI p.r.length (fun i=>cst p.c.length p.r.length p.r.length (bN s1 i)*s1.1 i (nE p)):=sI_nonneg fun i hi=>Int.mul_nonneg (cst_bd (i:=p.r.length)).1 (hn i hi)
 omega
theorem rhs_keep {p:Pr} {s:TS} {g:Nat→Int} (h:Zr p s):∀i<p.r.length,0≤(up2 s.1 p.r.length g,s.2).1 i (nE p):=fun i hi=>by
 show 0≤up2 s.1 p.r.length g i _
 unfold up2;rw [if_neg (by omega)];exact h.nn i hi
end
section
open Go.Sx Go.Fq Go.Dt
abbrev Slt:=Int×List F×F×List F×List F
inductive SolV (p:Pr):Slt→Prop
 |opt {tu sl:Nat→Int} {s0 s1 s2 s3 s4:TS} {z z' sc:Int} {X Y:List F} {v:F} (h1:D1 p→sc=1∧∀i<p.r.length,tu i*sl i=1∨tu i*sl i= -1) (h:Qh1 p (fun a=>tu a*sl a) s0 s1 z) (k:Qh2 p sc s1 s2 s3 s4 z') (hz:z'<0) (hX:X.length=p.c.length) (pX:PtV p.c.length (p.c.length+2*p.r.length) s4.1 s4.2.1 s4.2.2 p.r.length X)
   (vv:VF v) (ev:val v=((-(s4.1 p.r.length (nE p)):Int):Rat)/((s4.2.2:Rat)*(sc:Rat))) (hY:Y.length=p.r.length) (pY:DuV s4.1 s4.2.2 p.c.length p.r.length 0 sc tu sl p.r.length Y):SolV p (1,X,v,Y,[])
 |unb {X Z:List F} (h:RSol p 2 0):SolV p (2,X,(0,1),[],Z)
 |inf {tu sl:Nat→Int} {s0 s1:TS} {z:Int} {Y:List F} (h1:D1 p→∀i<p.r.length,tu i*sl i=1∨tu i*sl i= -1) (h:Qh1 p (fun a=>tu a*sl a) s0 s1 z) (ho:s1.1 p.r.length (nE p)<0) (hY:Y.length=p.r.length) (pY:DuV s1.1 s1.2.2 p.c.length p.r.length 1 1 tu sl p.r.length Y):SolV p (3,[],(0,1),Y,[])
theorem val_01:val (0,1)=0:=by unfold val;simp
theorem SolV.sol {p:Pr} {s:Slt} (h:SolV p s):VF s.2.2.1∧RSol p s.1 (val s.2.2.1):=by
 cases h with
 |opt _ h k hz hX pX vv ev=>exact⟨vv,by dsimp only;rw [ev];exact ropt_ok h k hz⟩
 |unb h=>exact⟨vf_01,by dsimp only;rw [val_01];exact h⟩
 |inf _ h ho=>exact⟨vf_01,by dsimp only;rw [val_01];exact rinf_ok h (by omega)⟩
theorem ptv_eq {p:Pr} {s0 s:TS} {co:Nat→Int} (I:TI p s0 co s) {k:Nat} (hk:k<p.c.length):
  ∀i,i≤p.r.length→ptv (nE p) s.1 s.2.1 s.2.2 i k=((sI i (fun j=>if bN s j=k then s.1 j (nE p)else 0):Int):Rat)/(s.2.2:Rat)
 |0,_=>by simp only [ptv,sI];simp [Rat.div_def,Rat.zero_mul]
 |i+1,hi=>by
  simp only [ptv,sI]
  by_cases e:s.2.1 i=k
  ·have e2:=(bN_iff I (by omega)).1 e
   rw [if_pos e,if_pos e2,sI_miss I (by omega) e2,Int.zero_add,Rat.divInt_eq_div]
  ·have e2:¬bN s i=k:=fun h=>e ((bN_iff I (by omega)).2 h)
   rw [if_neg e,if_neg e2,Int.add_zero]
   exact ptv_eq I hk i (by omega)
theorem pt_x {p:Pr} {s0 s:TS} {co:Nat→Int} (I:TI p s0 co s) {X:List F} (h:PtV p.c.length (p.c.length+2*p.r.length) s.1 s.2.1 s.2.2 p.r.length X) {k:Nat} (hk:k<p.c.length):VF (X.getD k (0,1))∧at' X k=(xE p s k:Rat)/(s.2.2:Rat):=by
 obtain⟨h1,h2⟩:=h k hk
 exact⟨h1,h2.trans (ptv_eq I hk _ (Nat.le_refl _))⟩
theorem du_y {p:Pr} {s:TS} {own cost:Int} {tu sl:Nat→Int} {Y:List F} {co:Nat→Int} (h:DuV s.1 s.2.2 p.c.length p.r.length own cost tu sl p.r.length Y) (d0:0<s.2.2) (hc:1≤cost) (ho:∀i<p.r.length,co (uC p i)=own) {i:Nat} (hi:i<p.r.length):
  VF (Y.getD i (0,1))∧at' Y i=(pi' p co s i:Rat)/(s.2.2:Rat)*((tu i*sl i:Int):Rat)/(cost:Rat):=by
 obtain⟨h1,h2⟩:=h i hi
 refine⟨h1,h2.trans ?_⟩
 have d1:=rq0 d0
 have c1:=rq0 (show 0<cost by omega)
 rw [Rat.divInt_eq_div]
 unfold pi'
 rw [ho i hi,Int.mul_assoc,Int.mul_comm own,Rat.intCast_mul,Rat.intCast_mul]
 show _=_
 have:p.c.length+p.r.length+i=uC p i:=rfl
 rw [this];grind
end
end Go.Proofs.YtbcjojomkibgeaaGreat
