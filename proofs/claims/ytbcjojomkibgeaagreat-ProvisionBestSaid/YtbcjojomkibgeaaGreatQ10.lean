/- Lemmas of this seat. Conditions: as stated. -/
import Derived.Test.YtbcjojomkibgeaaGreatS7
import Derived.Test.YtbcjojomkibgeaaGreatPl
set_option linter.unusedVariables false
set_option linter.unusedSimpArgs false
set_option maxHeartbeats 1000000
namespace Go.Proofs.YtbcjojomkibgeaaGreat
open Go.Sx Go.Fq Go.Dt
abbrev bN (s:TS) (i:Nat):Nat:=(s.2.1 i).toNat
abbrev uC (p:Pr) (l:Nat):Nat:=p.c.length+p.r.length+l
structure TI (p:Pr) (s0:TS) (co:Nat→Int) (s:TS):Prop where
 inv:Inv p.r.length (nE p+1) s0.1 (uC p) co s.1 (bN s) s.2.2
 bs:∀i<p.r.length,0≤s.2.1 i∧s.2.1 i<nE p
theorem uC_lt {p:Pr} {l:Nat} (h:l<p.r.length):uC p l<nE p+1:=by unfold uC nE;omega
theorem pv_pvt {m w:Nat} {T0:M} {u:Nat→Nat} {co:Nat→Int} {s s':TS} {r c:Nat} (I:Inv m w T0 u co s.1 (bN s) s.2.2) (hr:r<m) (hc:c<w) (P:Piw m w s r c s'):Pvt m w s.1 s.2.2 r c s'.1 s'.2.2:=by
 refine⟨?_,?_,?_⟩
 ·intro a ha hn b hb
  obtain⟨z,hz,_⟩:=I.dvd hr hc ha hn hb
  have e:=P.eq a ha b hb
  unfold pv nw1 at e
  rw [hz]at e
  have ht:(s.2.2*z).tdiv s.2.2=z:=Int.mul_tdiv_cancel_left _ (by have:=I.d0;omega)
  rw [ht,if_neg hn]at e
  rw [e,hz];unfold sp
  split<;>grind
 ·intro b hb
  have e:=P.eq r (by omega) b hb
  unfold pv at e
  rw [if_pos rfl]at e
  rw [e];unfold sp;split<;>omega
 ·rw [P.d,sp_mul]
theorem TI.piv {p:Pr} {s0 s s':TS} {co:Nat→Int} {r c:Nat} (I:TI p s0 co s) (hr:r<p.r.length) (hc:c<nC p) (hp:s.1 r c≠0) (P:Piw p.r.length (nE p+1) s r c s'):TI p s0 co s':=by
 have hcE:c<nE p:=by unfold nC at hc;unfold nE;omega
 have e:bN s'=ub (bN s) r c:=by
  funext i;unfold bN ub;rw [P.bs];unfold up;split<;>simp
 refine⟨?_,?_⟩
 ·rw [e];exact I.inv.pivot hr (by omega) hp (fun l hl=>uC_lt hl) (pv_pvt I.inv hr (by omega) P)
 ·intro i hi
  rw [P.bs];unfold up;split
  ·omega
  ·exact I.bs i hi
theorem stp_rhs {p:Pr} {s0 s s':TS} {co:Nat→Int} (I:TI p s0 co s) (h:Stw p.r.length (nE p) (nC p) s s') (hn:∀i<p.r.length,0≤s.1 i (nE p)):∀i<p.r.length,0≤s'.1 i (nE p):=by
 obtain⟨r,c,hr,hc,_,hp,hmin,P⟩:=h.ex
 have hcE:c<nE p:=by unfold nC at hc;unfold nE;omega
 have Q:=pv_pvt I.inv hr (by omega) P
 have hsp:sp (s.1 r c)=1:=by unfold sp;rw [if_neg (by omega)]
 intro i hi
 by_cases e:i=r
 ·subst e;rw [Q.own _ (by omega),hsp,Int.one_mul];exact hn i hi
 ·have h1:=Q.oth i (by omega) e (nE p) (by omega)
  rw [hsp,Int.one_mul]at h1
  have d0:=I.inv.d0
  have h2:0≤s.1 i (nE p)*s.1 r c-s.1 i c*s.1 r (nE p):=by
   by_cases hc0:0<s.1 i c
   ·have:=hmin i hi hc0
    have e2:s.1 i c*s.1 r (nE p)=s.1 r (nE p)*s.1 i c:=Int.mul_comm _ _
    omega
   ·have a1:=Int.mul_nonneg (hn i hi) (show 0≤s.1 r c by omega)
    have a2:0≤(-(s.1 i c))*s.1 r (nE p):=Int.mul_nonneg (by omega) (hn r hr)
    rw [Int.neg_mul]at a2;omega
  rw [←h1]at h2
  by_cases h3:0≤s'.1 i (nE p)
  ·exact h3
  ·have:s.2.2*s'.1 i (nE p)<0:=Int.mul_neg_of_pos_of_neg d0 (by omega)
   omega
theorem TI.stp {p:Pr} {s0 s s':TS} {co:Nat→Int} (I:TI p s0 co s) (h:Stw p.r.length (nE p) (nC p) s s'):TI p s0 co s':=by
 obtain⟨r,c,hr,hc,_,hp,_,P⟩:=h.ex
 exact I.piv hr hc (by omega) P
theorem run_ti {p:Pr} {s0 s s':TS} {co:Nat→Int} (I:TI p s0 co s) (h:Ruw p.r.length (nE p) (nC p) s s'):TI p s0 co s':=by
 induction h with
 |refl=>exact I
 |step _ k ih=>exact ih.stp k
theorem run_rhs {p:Pr} {s0 s s':TS} {co:Nat→Int} (I:TI p s0 co s) (hn:∀i<p.r.length,0≤s.1 i (nE p)) (h:Ruw p.r.length (nE p) (nC p) s s'):∀i<p.r.length,0≤s'.1 i (nE p):=by
 induction h with
 |refl=>exact hn
 |step h k ih=>exact stp_rhs (run_ti I h) k ih
theorem arts_ti {p:Pr} {s0 s s':TS} {co:Nat→Int} (I:TI p s0 co s) (h:Arw p.r.length (nE p+1) (nC p) s s'):TI p s0 co s':=by
 induction h with
 |refl=>exact I
 |step _ hr hc _ hp k ih=>exact ih.piv hr hc hp k
def Azr (p:Pr) (s:TS):Prop:=∀a<p.r.length,(nC p:Int)≤s.2.1 a→∀j<nC p,s.1 a j=0
theorem run_azr {p:Pr} {s s':TS} (hz:Azr p s) (h:Ruw p.r.length (nE p) (nC p) s s'):Azr p s':=by
 induction h with
 |refl=>exact hz
 |step _ k ih=>
  obtain⟨r,c,hr,hc,_,hp,_,P⟩:=k.ex
  intro a ha hb j hj
  have hE:nC p≤nE p:=by unfold nC nE;omega
  by_cases e:a=r
  ·subst e
   rw [P.bs]at hb
   simp only [up,if_pos]at hb
   omega
  ·rw [P.bs]at hb
   simp only [up,if_neg e]at hb
   exact piw_zero P (by omega) e (ih a ha hb c hc) (by omega) (ih a ha hb j hj)
theorem ini_ti {p:Pr} {by':Nat→Int} {s0:TS} (h:Inj p by' s0):TI p s0 (cst p.c.length p.r.length p.r.length) s0:=by
 obtain⟨hrow,hbs,hd,hc⟩:=h
 have eb:∀i<p.r.length,bN s0 i=uC p i:=fun i hi=>by unfold bN uC;rw [hbs i hi];omega
 have ar:∀l<p.r.length,∀j<p.r.length,s0.1 l (uC p j)=if j=l then 1 else 0:=fun l hl j hj=>(hrow l hl).ar j hj
 refine⟨⟨by rw [hd];decide,fun i hi=>by rw [eb i hi];exact uC_lt hi,?_,?_,?_,?_,?_⟩,fun i hi=>by rw [hbs i hi];unfold nE;omega⟩
 ·have e:D p.r.length (fun j l=>s0.1 l (bN s0 j))=D p.r.length idv:=D_congr fun j hj l hl=>by rw [eb j hj,ar l hl j hj];rfl
  rw [e,hd]
  rcases D_id (m:=p.r.length)with h|h
  ·exact⟨1,rfl,by rw [h];rfl⟩
  ·exact⟨-1,rfl,by rw [h];rfl⟩
 ·intro k hk l hl
  rw [hd,sI_one hl (fun j hj hn=>by rw [eb j hj,ar l hl j hj,if_neg hn,Int.mul_zero]),eb l hl,ar l hl l hl,if_pos rfl];omega
 ·intro i hi j hj
  rw [eb j hj,ar i hi j hj,hd]
  by_cases e:i=j
  ·rw [if_pos e,if_pos e.symm]
  ·rw [if_neg e,if_neg (Ne.symm e)]
 ·intro i hi k hk
  rw [sI_one hi (fun l hl hn=>by rw [ar i hi l hl,if_neg hn,Int.zero_mul]),ar i hi i hi,if_pos rfl];omega
 ·intro k hk
  rw [hc k hk,hd]
  have e:sI p.r.length (fun i=>cst p.c.length p.r.length p.r.length (bN s0 i)*s0.1 i k)=cs s0.1 p.r.length k:=by
   have:∀n,n≤p.r.length→sI n (fun i=>cst p.c.length p.r.length p.r.length (bN s0 i)*s0.1 i k)=cs s0.1 n k:=by
    intro n
    induction n with
    |zero=>intro _;rfl
    |succ n ih=>
     intro hn
     simp only [sI,cs]
     rw [ih (by omega),eb n (by omega)]
     have:cst p.c.length p.r.length p.r.length (uC p n)=1:=by unfold cst uC;rw [if_pos (by omega)]
     rw [this];omega
   exact this _ (Nat.le_refl _)
  rw [e];omega
theorem ph1_cost {p:Pr} {by':Nat→Int} {s0 s1:TS} {z:Int} (h:Qh1 p by' s0 s1 z):TI p s0 (cst p.c.length p.r.length p.r.length) s1∧(∀i<p.r.length,0≤s1.1 i (nE p))∧∀k<nC p,0≤s1.1 p.r.length k:=by
 have I0:=ini_ti h.ini
 have I:=run_ti I0 h.run
 refine⟨I,run_rhs I0 (fun i hi=>(h.ini.1 i hi).nn) h.run,?_⟩
 rcases h.ends with⟨_,h⟩|⟨c,_,hc,hneg,hle⟩
 ·exact h
 ·exfalso
  have e:=I.inv.cost c (by unfold nC at hc;unfold nE;omega)
  have e1:cst p.c.length p.r.length p.r.length c=0:=by unfold cst;rw [if_neg (by unfold nC at hc;omega)]
  have e2:0≤sI p.r.length (fun i=> -(cst p.c.length p.r.length p.r.length (bN s1 i)*s1.1 i c)):=sI_nonneg fun i hi=>by
   have:=Int.mul_nonneg (cst_bd (n:=p.c.length) (m:=p.r.length) (i:=p.r.length) (k:=bN s1 i)).1 (show 0≤-(s1.1 i c)by have:=hle i hi;omega)
   rw [Int.mul_neg]at this;exact this
  have e3:sI p.r.length (fun i=> -(cst p.c.length p.r.length p.r.length (bN s1 i)*s1.1 i c))= -sI p.r.length (fun i=>cst p.c.length p.r.length p.r.length (bN s1 i)*s1.1 i c):=by
   have:=sI_mul (f:=fun i=>cst p.c.length p.r.length p.r.length (bN s1 i)*s1.1 i c) (c:= -1) (n:=p.r.length)
   simp only [Int.neg_mul,Int.one_mul]at this;exact this
  rw [e1,Int.mul_zero]at e
  omega
theorem red_eq {p:Pr} {sc:Int} {s:TS} {k:Nat}:∀{i:Nat},red p sc s i k=s.2.2*cc p sc k-sI i (fun j=>cc p sc (bN s j)*s.1 j k)
 |0=>by simp only [red,sI];rw [Int.mul_comm];omega
 |i+1=>by
  simp only [red,sI];rw [red_eq]
  show _-cc p sc (bN s i)*s.1 i k=_
  omega
theorem ph2_ti3 {p:Pr} {by':Nat→Int} {s0 s1 s2 s3 s4:TS} {z z' sc:Int} (h:Qh1 p by' s0 s1 z) (k:Qh2 p sc s1 s2 s3 s4 z'):TI p s0 (cc p sc) s3∧Azr p s3:=by
 have I2:=arts_ti (ph1_cost h).1 k.art
 have e1:s3.2.1=s2.2.1:=by rw [k.rest]
 have e2:s3.2.2=s2.2.2:=by rw [k.rest]
 have eb:bN s3=bN s2:=by funext i;unfold bN;rw [e1]
 have J:=I2.inv
 have I3:TI p s0 (cc p sc) s3:=by
  refine⟨⟨by rw [e2];exact J.d0,fun i hi=>by rw [eb];exact J.bsw i hi,by rw [eb,e2];exact J.det,?_,?_,?_,?_⟩,fun i hi=>by rw [e1];exact I2.bs i hi⟩
  ·intro k' hk l hl
   rw [e2,eb,J.col k' hk l hl]
   exact sI_congr fun j hj=>by rw [k.row j hj k' hk]
  ·intro i hi j hj
   rw [eb,e2,k.row i hi _ (J.bsw j hj)];exact J.bas i hi j hj
  ·intro i hi k' hk
   rw [k.row i hi k' hk,J.row i hi k' hk]
   exact sI_congr fun l hl=>by rw [k.row i hi _ (uC_lt hl)]
  ·intro k' hk
   rw [k.cost k' hk,red_eq,e2,eb]
   congr 1
   exact sI_congr fun j hj=>by rw [k.row j hj k' hk]
 have Z3:Azr p s3:=fun a ha hb j hj=>by
  rw [e1]at hb
  rw [k.row a ha j (by unfold nC at hj;unfold nE;omega)]
  exact k.azr a ha hb j hj
 exact⟨I3,Z3⟩
theorem ph2_ti {p:Pr} {by':Nat→Int} {s0 s1 s2 s3 s4:TS} {z z' sc:Int} (h:Qh1 p by' s0 s1 z) (k:Qh2 p sc s1 s2 s3 s4 z'):TI p s0 (cc p sc) s4∧Azr p s4:=by
 obtain⟨I3,Z3⟩:=ph2_ti3 h k
 exact⟨run_ti I3 k.run,run_azr Z3 k.run⟩
end Go.Proofs.YtbcjojomkibgeaaGreat
