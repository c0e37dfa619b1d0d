/- Lemmas of this seat. Conditions: as stated. -/
import Derived.Test.YtbcjojomkibgeaaGreatQ14
set_option linter.unusedVariables false
set_option linter.unusedSimpArgs false
set_option maxHeartbeats 1000000
namespace Go.Proofs.YtbcjojomkibgeaaGreat
open Go.Sx Go.Fq Go.Dt
def xE (p:Pr) (s:TS) (k:Nat):Int:=sI p.r.length (fun j=>if bN s j=k then s.1 j (nE p)else 0)
theorem xE_nn {p:Pr} {s:TS} (h:Zr p s) (k:Nat):0≤xE p s k:=sI_nonneg fun j hj=>by
 split
 ·exact h.nn j hj
 ·exact Int.le_refl _
theorem row_split {p:Pr} {by':Nat→Int} {s0:TS} (hi:Inj p by' s0) {g:Nat→Int} {l:Nat} (hl:l<p.r.length) (hz:∀j<p.r.length,g (p.c.length+(p.r.length+j))=0):
  sI (nE p) (fun k=>s0.1 l k*g k)=sI p.c.length (fun k=>s0.1 l k*g k)+sg (by' l)*sns (p.r.getD l rw0)*g (p.c.length+l):=by
 have e:nE p=p.c.length+(p.r.length+p.r.length):=by unfold nE;omega
 rw [e,sI_split,sI_split]
 have e1:sI p.r.length (fun i=>s0.1 l (p.c.length+i)*g (p.c.length+i))=sg (by' l)*sns (p.r.getD l rw0)*g (p.c.length+l):=by
  rw [sI_one hl (fun j hj hn=>by rw [(hi.1 l hl).sl j hj,if_neg hn,Int.zero_mul]),(hi.1 l hl).sl l hl,if_pos rfl]
 have e2:sI p.r.length (fun i=>s0.1 l (p.c.length+(p.r.length+i))*g (p.c.length+(p.r.length+i)))=0:=sI_zero fun j hj=>by rw [hz j hj,Int.mul_zero]
 rw [e1,e2];omega
theorem xE_row {p:Pr} {by':Nat→Int} {s0 s:TS} {co:Nat→Int} (hi:Inj p by' s0) (I:TI p s0 co s) (Z:Zr p s) {l:Nat} (hl:l<p.r.length):
  sI p.c.length (fun k=>s0.1 l k*xE p s k)+sg (by' l)*sns (p.r.getD l rw0)*xE p s (p.c.length+l)=s.2.2*s0.1 l (nE p):=by
 rw [←row_split hi hl (fun j hj=>sI_zero fun i hi'=>by
  split
  ·rename_i e
   have:=I.bs i hi'
   exact Z.z i hi' (by unfold bN at e;unfold nC;omega)
  ·rfl)]
 unfold xE
 rw [sI_basis (fun j hj hb=>absurd hb (by have:=I.bs j hj;unfold bN;omega)),I.inv.col (nE p) (by omega) l hl]
 exact sI_congr fun j _=>Int.mul_comm _ _
theorem by_abs {b:Int}:(b:Rat)=(sg b:Rat)*((b.natAbs:Int):Rat):=by rw [←Rat.intCast_mul,←sg_abs]
theorem sg_sq {b:Int}:(sg b:Rat)*(sg b:Rat)=1:=by rw [←Rat.intCast_mul];unfold sg;split<;>rfl
theorem row_q {p:Pr} {by':Nat→Int} {s0:TS} (hi:Inj p by' s0) {d:Int} (d0:0<d) {g:Nat→Int} {x:Nat→Rat} {t e:Int} (hx:∀k<p.c.length,x k=(g k:Rat)/(d:Rat)) {l:Nat} (hl:l<p.r.length)
  (h:sI p.c.length (fun k=>s0.1 l k*g k)+sg (by' l)*sns (p.r.getD l rw0)*t=d*e):
  sm p.c.length (fun j=>A p l j*x j)=(e:Rat)/(by' l:Rat)-((sns (p.r.getD l rw0)*t:Int):Rat)/((d:Rat)*(((by' l).natAbs :Int):Rat)):=by
 have hR:=hi.1 l hl
 have d1:=rq0 d0
 have hab:0<(((by' l).natAbs :Int):Rat):=rqp (by have:=hR.b0;omega)
 have hb:(by' l:Rat)≠0:=fun e=>hR.b0 (Rat.intCast_eq_zero_iff.1 e)
 have e1:sm p.c.length (fun j=>A p l j*x j)*((d:Rat)*(by' l:Rat))=((sI p.c.length (fun k=>s0.1 l k*g k):Int):Rat):=by
  rw [←sm_int,←sm_mul]
  apply sm_congr;intro j hj
  rw [hx j hj,Rat.intCast_mul,hR.co j hj]
  unfold A at';grind
 have e2:((sI p.c.length (fun k=>s0.1 l k*g k):Int):Rat)=(d:Rat)*(e:Rat)-(sg (by' l):Rat)*((sns (p.r.getD l rw0)*t:Int):Rat):=by
  rw [←Rat.intCast_mul,←Rat.intCast_mul,←Rat.intCast_sub,←h]
  congr 1;rw [Int.mul_assoc];omega
 rw [e2]at e1
 have hba:=by_abs (b:=by' l)
 have hsg:=sg_sq (b:=by' l)
 generalize sm p.c.length (fun j=>A p l j*x j)=V at*
 generalize ((sns (p.r.getD l rw0)*t:Int):Rat)=T at*
 generalize (((by' l).natAbs :Int):Rat)=a at*
 generalize (sg (by' l):Rat)=g' at*
 generalize (by' l:Rat)=b at*
 have ha:a≠0:=by grind
 have hg:g'≠0:=by grind
 have:V=((d:Rat)*(e:Rat)-g'*T)/((d:Rat)*b):=by grind
 rw [this]
 subst hba
 grind
theorem rowJ_e {p:Pr} {by':Nat→Int} {s0:TS} (hi:Inj p by' s0) {l:Nat} (hl:l<p.r.length):(s0.1 l (nE p):Rat)/(by' l:Rat)=B p l:=by
 have hR:=hi.1 l hl
 have hb:(by' l:Rat)≠0:=fun e=>hR.b0 (Rat.intCast_eq_zero_iff.1 e)
 rw [show nE p=p.c.length+2*p.r.length from rfl,hR.bo]
 unfold B;rw [at_bds hl,List.getD_eq_getElem?_getD];simp [hl];grind
theorem rfeas_ok {p:Pr} {by':Nat→Int} {s0 s:TS} {co:Nat→Int} (hi:Inj p by' s0) (I:TI p s0 co s) (Z:Zr p s):RFeas p (fun k=>(xE p s k:Rat)/(s.2.2:Rat)):=by
 have d0:=I.inv.d0
 have key:∀l<p.r.length,∃r:Rat,0≤r∧sm p.c.length (fun j=>A p l j*((xE p s j:Rat)/(s.2.2:Rat)))=B p l-(sns (p.r.getD l rw0):Rat)*r:=fun l hl=>by
  have hab:0<(((by' l).natAbs :Int):Rat):=rqp (by have:=(hi.1 l hl).b0;omega)
  refine⟨(xE p s (p.c.length+l):Rat)/((s.2.2:Rat)*(((by' l).natAbs :Int):Rat)),div_ge0 (Rat.mul_pos (rqp d0) hab) (xE_nn Z _),?_⟩
  rw [row_q hi d0 (x:=fun k=>(xE p s k:Rat)/(s.2.2:Rat)) (fun k _=>rfl) hl (xE_row hi I Z hl),rowJ_e hi hl,Rat.intCast_mul]
  grind
 refine⟨fun j _=>div_ge0 (rqp d0) (xE_nn Z _),fun l hl hs=>?_,fun l hl hs=>?_,fun l hl hs=>?_⟩
 all_goals
  obtain⟨r,h0,h⟩:=key l hl
  rw [h]
 ·have e:(sns (p.r.getD l rw0):Rat)=1:=by unfold sns;rw [if_pos hs];rfl
  rw [e];grind
 ·have e:(sns (p.r.getD l rw0):Rat)= -1:=by unfold sns;rw [if_neg (by omega),if_pos hs];rfl
  rw [e];grind
 ·have e:(sns (p.r.getD l rw0):Rat)=0:=by unfold sns;rw [if_neg (by omega),if_neg (by omega)];rfl
  rw [e];grind
theorem cost_q {p:Pr} {sc:Int} (hv:VP p) (sc1:1≤sc) (hd:∀f∈p.c,f.2∣sc) {d:Int} (d0:0<d) {x:Nat→Rat} {g:Nat→Int} (hx:∀k<p.c.length,x k=(g k:Rat)/(d:Rat)):
  sm p.c.length (fun k=>cR p k*x k)=((sI p.c.length (fun k=>cc p sc k*g k):Int):Rat)/((d:Rat)*(sc:Rat)):=by
 have h0:=rq0 (show 0<sc by omega)
 have h1:=rq0 d0
 have e:sm p.c.length (fun k=>cR p k*x k)=sm p.c.length (fun k=>((cc p sc k*g k:Int):Rat)*(1/((d:Rat)*(sc:Rat)))):=by
  apply sm_congr;intro k hk
  show at' p.c k*x k=_
  rw [cc_val hv sc1 hd hk,hx k hk,Rat.intCast_mul];grind
 rw [e,sm_mul,sm_int];grind
theorem ropt_ok {p:Pr} {by':Nat→Int} {s0 s1 s2 s3 s4:TS} {z z' sc:Int} (h:Qh1 p by' s0 s1 z) (k:Qh2 p sc s1 s2 s3 s4 z') (hz:z'<0):RSol p 1 (((-(s4.1 p.r.length (nE p)):Int):Rat)/((s4.2.2:Rat)*(sc:Rat))):=by
 obtain⟨I,_⟩:=ph2_ti h k
 have Z:=zr4 h k
 have d0:=I.inv.d0
 have c0:=rqp (show 0<sc by have:=k.sc1;omega)
 have nn:∀k<nC p,0≤s4.1 p.r.length k:=by
  rcases k.ends with⟨_,h⟩|⟨c,hc,_⟩
  ·exact h
  ·omega
 have Dq:DualQ p by' s0 s4 (cc p sc) sc (fun i=>(pi' p (cc p sc) s4 i:Rat)/(s4.2.2:Rat)*(by' i:Rat)/(sc:Rat)):=
  ⟨h.ini,I,k.sc1,nn,fun k _=>cc_hi (by omega),cc_hi (by unfold nE;omega),fun i _=>rfl⟩
 have hds:0<(s4.2.2:Rat)*(sc:Rat):=Rat.mul_pos (rqp d0) c0
 refine .opt (rfeas_ok h.ini I Z) Dq.sgn (fun j hj=>?_) ?_ Dq.bds
 ·rw [Dq.col hj]
  have e:=cc_val h.vp k.sc1 k.scd hj
  show _≤at' p.c j
  rw [e]
  have h1:=div_ge0 hds (nn j (by unfold nC;omega))
  have d1:=rq0 d0
  have c1:=rq0 (show 0<sc by have:=k.sc1;omega)
  have e2:(((s4.2.2*cc p sc j-s4.1 p.r.length j:Int)):Rat)/((s4.2.2:Rat)*(sc:Rat))=(cc p sc j:Rat)/(sc:Rat)-((s4.1 p.r.length j:Int):Rat)/((s4.2.2:Rat)*(sc:Rat)):=by
   rw [Rat.intCast_sub,Rat.intCast_mul];grind
  rw [e2];grind
 ·rw [cost_q h.vp k.sc1 k.scd d0 (g:=xE p s4) (fun k _=>rfl)]
  congr 2
  unfold xE
  rw [sI_basis (fun j _ hb=>cc_hi hb)]
  have e:=I.inv.cost (nE p) (by omega)
  rw [cc_hi (p:=p) (sc:=sc) (k:=nE p) (by unfold nE;omega),Int.mul_zero]at e
  omega
theorem runb_ok {p:Pr} {by':Nat→Int} {s0 s1 s2 s3 s4:TS} {z sc:Int} {c:Nat} (h:Qh1 p by' s0 s1 z) (k:Qh2 p sc s1 s2 s3 s4 c):RSol p 2 0:=by
 obtain⟨I,Za⟩:=ph2_ti h k
 have Z:=zr4 h k
 have d0:=I.inv.d0
 obtain⟨hcC,hneg,hle⟩:c<nC p∧s4.1 p.r.length c<0∧∀i<p.r.length,s4.1 i c≤0:=by
  rcases k.ends with⟨e,_⟩|⟨c',e,a,b,d⟩
  ·omega
  ·have:c=c':=by omega
   subst this;exact⟨a,b,d⟩
 have hcE:c<nE p:=by unfold nC at hcC;unfold nE;omega
 have hrow:=fun l hl=>dir_row h.ini I Za hcC (l:=l) hl
 have hdn:=fun j=>dir_nn (p:=p) (s:=s4) (c:=c) d0 hle j
 have key:∀l<p.r.length,∃r:Rat,0≤r∧sm p.c.length (fun j=>A p l j*((dir p.r.length s4.1 (bN s4) s4.2.2 c j:Rat)/(s4.2.2:Rat)))= -((sns (p.r.getD l rw0):Rat)*r):=fun l hl=>by
  have hab:0<(((by' l).natAbs :Int):Rat):=rqp (by have:=(h.ini.1 l hl).b0;omega)
  refine⟨(dir p.r.length s4.1 (bN s4) s4.2.2 c (p.c.length+l):Rat)/((s4.2.2:Rat)*(((by' l).natAbs :Int):Rat)),div_ge0 (Rat.mul_pos (rqp d0) hab) (hdn _),?_⟩
  have:=row_q h.ini d0 (x:=fun k=>(dir p.r.length s4.1 (bN s4) s4.2.2 c k:Rat)/(s4.2.2:Rat)) (t:=dir p.r.length s4.1 (bN s4) s4.2.2 c (p.c.length+l)) (e:=0) (fun k _=>rfl) hl (by rw [hrow l hl];omega)
  rw [this,Rat.intCast_mul]
  simp only [Rat.div_def,Rat.intCast_zero,Rat.zero_mul];grind
 refine .unb (rfeas_ok h.ini I Z) (r:=fun k=>(dir p.r.length s4.1 (bN s4) s4.2.2 c k:Rat)/(s4.2.2:Rat)) ⟨fun j _=>div_ge0 (rqp d0) (hdn j),fun l hl hs=>?_,fun l hl hs=>?_,fun l hl hs=>?_⟩ ?_
 ·obtain⟨r,h0,e⟩:=key l hl
  rw [e,show(sns (p.r.getD l rw0):Rat)=1 by unfold sns;rw [if_pos hs];rfl];grind
 ·obtain⟨r,h0,e⟩:=key l hl
  rw [e,show(sns (p.r.getD l rw0):Rat)= -1 by unfold sns;rw [if_neg (by omega),if_pos hs];rfl];grind
 ·obtain⟨r,h0,e⟩:=key l hl
  rw [e,show(sns (p.r.getD l rw0):Rat)=0 by unfold sns;rw [if_neg (by omega),if_neg (by omega)];rfl];grind
 ·rw [cost_q h.vp k.sc1 k.scd d0 (g:=dir p.r.length s4.1 (bN s4) s4.2.2 c) (fun k _=>rfl),sI_dir (fun j _ hb=>cc_hi hb) (fun hb=>cc_hi hb)]
  have e:=I.inv.cost c (by omega)
  rw [←e]
  have h2:0<((s4.2.2:Rat)*(sc:Rat))⁻¹:=Rat.inv_pos.2 (Rat.mul_pos (rqp d0) (rqp (by have:=k.sc1;omega)))
  have h3:((s4.1 p.r.length c:Int):Rat)<0:=Rat.intCast_neg_iff.2 hneg
  rw [Rat.div_def]
  have:=Rat.mul_pos (a:= -((s4.1 p.r.length c:Int):Rat)) (by grind) h2
  grind
end Go.Proofs.YtbcjojomkibgeaaGreat
