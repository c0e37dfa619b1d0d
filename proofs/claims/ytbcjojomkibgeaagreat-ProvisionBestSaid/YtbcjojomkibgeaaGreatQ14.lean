/- Lemmas of this seat. Conditions: as stated. -/
import Derived.Test.YtbcjojomkibgeaaGreatQ11
set_option linter.unusedVariables false
set_option linter.unusedSimpArgs false
set_option maxHeartbeats 1000000
namespace Go.Proofs.YtbcjojomkibgeaaGreat
open Go.Sx Go.Fq Go.Dt
structure RFeas (p:Pr) (x:Nat→Rat):Prop where
 nn:∀j<p.c.length,0≤x j
 r1:∀i<p.r.length,(p.r.getD i rw0).2.1 =1→sm p.c.length (fun j=>A p i j*x j)≤B p i
 r2:∀i<p.r.length,(p.r.getD i rw0).2.1 =2→B p i≤sm p.c.length (fun j=>A p i j*x j)
 r3:∀i<p.r.length,(p.r.getD i rw0).2.1 =3→sm p.c.length (fun j=>A p i j*x j)=B p i
structure RSgn (p:Pr) (y:Nat→Rat):Prop where
 s1:∀i<p.r.length,(p.r.getD i rw0).2.1 =1→y i≤0
 s2:∀i<p.r.length,(p.r.getD i rw0).2.1 =2→0≤y i
def SnOK (p:Pr):Prop:=∀i<p.r.length,(p.r.getD i rw0).2.1 =1∨(p.r.getD i rw0).2.1 =2∨(p.r.getD i rw0).2.1 =3
theorem VP.sn {p:Pr} (h:VP p):SnOK p:=fun i hi=>by
 have h1:=h.2.2.2.2 p.r[i] (List.getElem_mem hi)
 have e:p.r.getD i rw0=p.r[i]:=by rw [List.getD_eq_getElem?_getD];simp [hi]
 rw [e]
 obtain⟨_,h2,h3,_⟩:=h1
 omega
theorem RFeas.le {p:Pr} {x y:Nat→Rat} (h:RFeas p x) (k:RSgn p y) (hv:SnOK p) {i:Nat} (hi:i<p.r.length):B p i*y i≤sm p.c.length (fun j=>A p i j*x j)*y i:=by
 rcases hv i hi with e|e|e
 ·have a1:=h.r1 i hi e
  have a2:=k.s1 i hi e
  have:=Rat.mul_le_mul_of_nonneg_right a1 (show 0≤-y i by grind)
  grind
 ·exact Rat.mul_le_mul_of_nonneg_right (h.r2 i hi e) (k.s2 i hi e)
 ·rw [h.r3 i hi e];grind
theorem RFeas.weak {p:Pr} {x y c:Nat→Rat} (h:RFeas p x) (k:RSgn p y) (hv:SnOK p) (hc:∀j<p.c.length,sm p.r.length (fun i=>A p i j*y i)≤c j):sm p.r.length (fun i=>B p i*y i)≤sm p.c.length (fun j=>c j*x j):=
 Go.Fq.weak (a:=A p) (b:=B p) (c:=c) h.nn hc fun _ hi=>h.le k hv hi
structure RRay (p:Pr) (x:Nat→Rat):Prop where
 nn:∀j<p.c.length,0≤x j
 r1:∀i<p.r.length,(p.r.getD i rw0).2.1 =1→sm p.c.length (fun j=>A p i j*x j)≤0
 r2:∀i<p.r.length,(p.r.getD i rw0).2.1 =2→0≤sm p.c.length (fun j=>A p i j*x j)
 r3:∀i<p.r.length,(p.r.getD i rw0).2.1 =3→sm p.c.length (fun j=>A p i j*x j)=0
abbrev cR (p:Pr) (j:Nat):Rat:=at' p.c j
inductive RSol (p:Pr):Int→Rat→Prop
 |opt {x y:Nat→Rat} {v:Rat} (hx:RFeas p x) (hy:RSgn p y) (hc:∀j<p.c.length,sm p.r.length (fun i=>A p i j*y i)≤cR p j) (h1:sm p.c.length (fun j=>cR p j*x j)=v) (h2:sm p.r.length (fun i=>B p i*y i)=v):RSol p 1 v
 |unb {x r:Nat→Rat} (hx:RFeas p x) (hr:RRay p r) (hn:sm p.c.length (fun j=>cR p j*r j)<0):RSol p 2 0
 |inf {y:Nat→Rat} (hy:RSgn p y) (hc:∀j<p.c.length,sm p.r.length (fun i=>A p i j*y i)≤0) (hp:0<sm p.r.length (fun i=>B p i*y i)):RSol p 3 0
theorem RSol.noinf {p:Pr} {x y:Nat→Rat} (hv:SnOK p) (hx:RFeas p x) (hy:RSgn p y) (hc:∀j<p.c.length,sm p.r.length (fun i=>A p i j*y i)≤0):¬0<sm p.r.length (fun i=>B p i*y i):=by
 have:=hx.weak hy hv (c:=fun _=>0) hc
 rw [sm_congr (g:=fun _=>0) (n:=p.c.length) (fun i _=>by grind),sm_zero]at this
 grind
structure DualQ (p:Pr) (by':Nat→Int) (s0 s:TS) (co:Nat→Int) (sc:Int) (y:Nat→Rat):Prop where
 ini:Inj p by' s0
 ti:TI p s0 co s
 sc0:1≤sc
 nn:∀k<nC p,0≤s.1 p.r.length k
 sl0:∀k<p.r.length,co (p.c.length+k)=0
 e0:co (nE p)=0
 y:∀i<p.r.length,y i=(pi' p co s i:Rat)/(s.2.2:Rat)*(by' i:Rat)/(sc:Rat)
theorem smq_pi {p:Pr} {y:Nat→Rat} {co:Nat→Int} {s s0:TS} {by':Nat→Int} {sc:Int} (h:DualQ p by' s0 s co sc y) {a:Nat→Rat} {k:Nat} (hk:k<nE p+1) (ha:∀i<p.r.length,(s0.1 i k:Rat)=(by' i:Rat)*a i):
  sm p.r.length (fun i=>a i*y i)=((s.2.2*co k-s.1 p.r.length k:Int):Rat)/((s.2.2:Rat)*(sc:Rat)):=by
 have d0:=rq0 h.ti.inv.d0
 have c0:=rq0 (show 0<sc by have:=h.sc0;omega)
 have e:sm p.r.length (fun i=>a i*y i)=sm p.r.length (fun i=>((pi' p co s i*s0.1 i k:Int):Rat)*(1/((s.2.2:Rat)*(sc:Rat)))):=by
  apply sm_congr;intro i hi
  rw [h.y i hi,Rat.intCast_mul,ha i hi]
  grind
 rw [e,sm_mul,sm_int]
 have e2:=h.ti.inv.pi (fun l hl=>uC_lt hl) hk
 have e3:sI p.r.length (fun i=>pi' p co s i*s0.1 i k)=s.2.2*co k-s.1 p.r.length k:=by unfold pi';omega
 rw [e3];grind
theorem DualQ.sgn {p:Pr} {y:Nat→Rat} {co:Nat→Int} {s s0:TS} {by':Nat→Int} {sc:Int} (h:DualQ p by' s0 s co sc y):RSgn p y:=by
 have key:∀i<p.r.length,((p.r.getD i rw0).2.1 =1→y i≤0)∧((p.r.getD i rw0).2.1 =2→0≤y i):=fun i hi=>by
  have hy:=h.y i hi
  have d0:=rqp h.ti.inv.d0
  have c0:=rqp (show 0<sc by have:=h.sc0;omega)
  have hk:p.c.length+i<nE p+1:=by unfold nE;omega
  have e2:=h.ti.inv.pi (fun l hl=>uC_lt hl) hk
  have e3:sI p.r.length (fun l=>(s.2.2*co (uC p l)-s.1 p.r.length (uC p l))*s0.1 l (p.c.length+i))=pi' p co s i*(sg (by' i)*sns (p.r.getD i rw0)):=by
   rw [sI_one hi (fun l hl hn=>by rw [(h.ini.1 l hl).sl i hi,if_neg (Ne.symm hn),Int.mul_zero]),(h.ini.1 i hi).sl i hi,if_pos rfl];rfl
  rw [e3,h.sl0 i hi,Int.mul_zero]at e2
  have hn:=h.nn (p.c.length+i) (by unfold nC;omega)
  have hval:y i=((pi' p co s i*by' i:Int):Rat)/((s.2.2:Rat)*(sc:Rat)):=by
   rw [hy,Rat.intCast_mul];grind
  have hds:0<(s.2.2:Rat)*(sc:Rat):=Rat.mul_pos d0 c0
  have hby:by' i=sg (by' i)*(by' i).natAbs :=sg_abs
  have hq:pi' p co s i*by' i=(pi' p co s i*sg (by' i))*(by' i).natAbs :=by
   conv=>lhs;rw [hby]
   rw [Int.mul_assoc]
  refine⟨fun hs=>?_,fun hs=>?_⟩
  ·have h1:sns (p.r.getD i rw0)=1:=by unfold sns;rw [if_pos hs]
   rw [h1,Int.mul_one]at e2
   have h2:(pi' p co s i*sg (by' i))*(by' i).natAbs ≤0:=Int.mul_nonpos_of_nonpos_of_nonneg (by omega) (by omega)
   rw [hval,hq]
   exact div_le0 hds h2
  ·have h1:sns (p.r.getD i rw0)= -1:=by unfold sns;rw [if_neg (by omega),if_pos hs]
   rw [h1]at e2
   have h2:0≤(pi' p co s i*sg (by' i))*(by' i).natAbs :=Int.mul_nonneg (by
    have:pi' p co s i*(sg (by' i)* -1)= -(pi' p co s i*sg (by' i)):=by grind
    omega) (by omega)
   rw [hval,hq]
   exact div_ge0 hds h2
 exact⟨fun i hi=>(key i hi).1,fun i hi=>(key i hi).2⟩
theorem DualQ.col {p:Pr} {y:Nat→Rat} {co:Nat→Int} {s s0:TS} {by':Nat→Int} {sc:Int} (h:DualQ p by' s0 s co sc y) {j:Nat} (hj:j<p.c.length):
  sm p.r.length (fun i=>A p i j*y i)=((s.2.2*co j-s.1 p.r.length j:Int):Rat)/((s.2.2:Rat)*(sc:Rat)):=
 smq_pi h (by unfold nE;omega) (fun i hi=>(h.ini.1 i hi).co j hj)
theorem DualQ.bds {p:Pr} {y:Nat→Rat} {co:Nat→Int} {s s0:TS} {by':Nat→Int} {sc:Int} (h:DualQ p by' s0 s co sc y):
  sm p.r.length (fun i=>B p i*y i)=((-(s.1 p.r.length (nE p)):Int):Rat)/((s.2.2:Rat)*(sc:Rat)):=by
 have:=smq_pi h (a:=fun i=>B p i) (k:=nE p) (by omega) (fun i hi=>by
  rw [(h.ini.1 i hi).bo];unfold B;rw [at_bds hi];rw [List.getD_eq_getElem?_getD];simp [hi])
 rw [h.e0,Int.mul_zero,Int.zero_sub]at this
 exact this
theorem rinf_ok {p:Pr} {by':Nat→Int} {s0 s1:TS} {z:Int} (h:Qh1 p by' s0 s1 z) (ho:s1.1 p.r.length (nE p)≠0):RSol p 3 0:=by
 obtain⟨I,hn,hc⟩:=ph1_cost h
 have c0:∀k,k<p.c.length+p.r.length∨k=nE p→cst p.c.length p.r.length p.r.length k=0:=fun k hk=>by
  unfold cst;rw [if_neg (by unfold nE at hk;omega)]
 have Dp:DualQ p by' s0 s1 (cst p.c.length p.r.length p.r.length) 1 (fun i=>(pi' p (cst p.c.length p.r.length p.r.length) s1 i:Rat)/(s1.2.2:Rat)*(by' i:Rat)/((1:Int):Rat)):=
  ⟨h.ini,I,by decide,hc,fun k hk=>c0 _ (.inl (by omega)),c0 _ (.inr rfl),fun i _=>rfl⟩
 have d0:=rqp I.inv.d0
 have hd1:0<(s1.2.2:Rat)*((1:Int):Rat):=Rat.mul_pos d0 (rqp (by decide))
 refine .inf Dp.sgn (fun j hj=>?_) ?_
 ·rw [Dp.col hj]
  apply div_le0 hd1
  rw [c0 j (.inl (by omega))]
  have:=hc j (by unfold nC;omega)
  omega
 ·rw [Dp.bds]
  apply div_gt0 hd1
  have e:=I.inv.cost (nE p) (by omega)
  rw [c0 _ (.inr rfl),Int.mul_zero]at e
  have:0≤sI p.r.length (fun i=>cst p.c.length p.r.length p.r.length (bN s1 i)*s1.1 i (nE p)):=sI_nonneg fun i hi=>Int.mul_nonneg (cst_bd (i:=p.r.length)).1 (hn i hi)
  omega
structure Zr (p:Pr) (s:TS):Prop where
 nn:∀i<p.r.length,0≤s.1 i (nE p)
 z:∀i<p.r.length,(nC p:Int)≤s.2.1 i→s.1 i (nE p)=0
theorem sI_all0 {g:Nat→Int}:∀{n:Nat},(∀i<n,0≤g i)→sI n g=0→∀i<n,g i=0
 |n+1,h,e,i,hi=>by
  have h1:=sI_nonneg (f:=g) (n:=n) fun i hi=>h i (by omega)
  have h2:=h n (by omega)
  simp only [sI]at e
  by_cases hn:i=n
  ·subst hn;omega
  ·exact sI_all0 (n:=n) (fun i hi=>h i (by omega)) (by omega) i (by omega)
theorem zr1 {p:Pr} {by':Nat→Int} {s0 s1:TS} {z:Int} (h:Qh1 p by' s0 s1 z) (ho:s1.1 p.r.length (nE p)=0):Zr p s1:=by
 obtain⟨I,hn,hc⟩:=ph1_cost h
 refine⟨hn,fun i hi hb=>?_⟩
 have e:=I.inv.cost (nE p) (by omega)
 rw [ho,show cst p.c.length p.r.length p.r.length (nE p)=0 by unfold cst;rw [if_neg (by unfold nE;omega)],Int.mul_zero]at e
 have:=sI_all0 (g:=fun i=>cst p.c.length p.r.length p.r.length (bN s1 i)*s1.1 i (nE p)) (fun i hi=>Int.mul_nonneg (cst_bd (i:=p.r.length)).1 (hn i hi)) (by omega) i hi
 have hbs:=I.bs i hi
 have e1:cst p.c.length p.r.length p.r.length (bN s1 i)=1:=by unfold cst bN;rw [if_pos (by unfold nC at hb;unfold nE at hbs;omega)]
 rw [e1,Int.one_mul]at this
 exact this
theorem nn_of {d x y:Int} (hd:0<d) (h:d*x=y) (hy:0≤y):0≤x:=by
 apply Classical.byContradiction
 intro hx
 have:d*x<0:=Int.mul_neg_of_pos_of_neg hd (by omega)
 omega
theorem z_of {d x:Int} (hd:0<d) (h:d*x=0):x=0:=by
 rcases Int.mul_eq_zero.1 h with h|h
 ·omega
 ·exact h
theorem Zr.art {p:Pr} {s0 s s':TS} {co:Nat→Int} (I:TI p s0 co s) (h:Zr p s) (k:Arw p.r.length (nE p+1) (nC p) s s'):Zr p s':=by
 induction k with
 |refl=>exact h
 |@step s' s'' r c k1 hr hc hb hp P ih=>
  have I':=arts_ti I k1
  have hcE:c<nE p:=by unfold nC at hc;unfold nE;omega
  have Q:=pv_pvt I'.inv hr (by omega) P
  have h0:=ih.z r hr hb
  have d0:=I'.inv.d0
  have ho:∀i<p.r.length,i≠r→s'.2.2*s''.1 i (nE p)=(s'.1 r c).natAbs *s'.1 i (nE p):=fun i hi hn=>by
   have:=Q.oth i (by omega) hn (nE p) (by omega)
   rw [h0,Int.mul_zero,Int.sub_zero]at this
   rw [this,←sp_mul];grind
  have hown:s''.1 r (nE p)=0:=by rw [Q.own _ (by omega),h0,Int.mul_zero]
  refine⟨fun i hi=>?_,fun i hi hbi=>?_⟩
  ·by_cases e:i=r
   ·subst e;omega
   ·exact nn_of d0 (ho i hi e) (Int.mul_nonneg (by omega) (ih.nn i hi))
  ·by_cases e:i=r
   ·subst e;exact hown
   ·rw [P.bs]at hbi
    simp only [up,if_neg e]at hbi
    have:=ho i hi e
    rw [ih.z i hi hbi,Int.mul_zero]at this
    exact z_of d0 this
theorem Zr.run {p:Pr} {s0 s s':TS} {co:Nat→Int} (I:TI p s0 co s) (hz:Azr p s) (h:Zr p s) (k:Ruw p.r.length (nE p) (nC p) s s'):Zr p s':=by
 refine⟨run_rhs I h.nn k,?_⟩
 induction k with
 |refl=>exact h.z
 |@step s' s'' k1 k2 ih=>
  have I':=run_ti I k1
  have hz':=run_azr hz k1
  obtain⟨r,c,hr,hc,_,hp,_,P⟩:=k2.ex
  have hcE:c<nE p:=by unfold nC at hc;unfold nE;omega
  have Q:=pv_pvt I'.inv hr (by omega) P
  intro i hi hbi
  rw [P.bs]at hbi
  by_cases e:i=r
  ·subst e;simp only [up,if_pos]at hbi;omega
  ·simp only [up,if_neg e]at hbi
   have:=Q.oth i (by omega) e (nE p) (by omega)
   rw [ih i hi hbi,hz' i hi hbi c hc,Int.zero_mul,Int.zero_mul,Int.sub_zero,Int.mul_zero]at this
   exact z_of I'.inv.d0 this
theorem zr4 {p:Pr} {by':Nat→Int} {s0 s1 s2 s3 s4:TS} {z z' sc:Int} (h:Qh1 p by' s0 s1 z) (k:Qh2 p sc s1 s2 s3 s4 z'):Zr p s4:=by
 have I2:=arts_ti (ph1_cost h).1 k.art
 have Z2:=(zr1 h k.ob).art (ph1_cost h).1 k.art
 have e1:s3.2.1=s2.2.1:=by rw [k.rest]
 have Z3:Zr p s3:=⟨fun i hi=>by rw [k.row i hi _ (by omega)];exact Z2.nn i hi,fun i hi hb=>by rw [k.row i hi _ (by omega)];rw [e1]at hb;exact Z2.z i hi hb⟩
 obtain⟨I3,A3⟩:=ph2_ti3 h k
 exact Z3.run I3 A3 k.run
end Go.Proofs.YtbcjojomkibgeaaGreat
