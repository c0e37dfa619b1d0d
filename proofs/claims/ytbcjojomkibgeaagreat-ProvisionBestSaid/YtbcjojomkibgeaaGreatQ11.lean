/- Lemmas of this seat. Conditions: as stated. -/
import Derived.Test.YtbcjojomkibgeaaGreatQ10
import Derived.Test.YtbcjojomkibgeaaGreatP10
set_option linter.unusedVariables false
set_option linter.unusedSimpArgs false
set_option maxHeartbeats 1000000
namespace Go.Proofs.YtbcjojomkibgeaaGreat
section
open Go.Sx Go.Fq Go.Dt
theorem sm_int {g:Nat→Int}:∀{n:Nat},sm n (fun i=>(g i:Rat))=((sI n g:Int):Rat)
 |0=>by simp [sm,sI]
 |n+1=>by simp only [sm,sI];rw [sm_int,Rat.intCast_add]
def pi' (p:Pr) (co:Nat→Int) (s:TS) (i:Nat):Int:=s.2.2*co (uC p i)-s.1 p.r.length (uC p i)
structure DualP (p:Pr) (by':Nat→Int) (s0 s:TS) (co:Nat→Int) (sc:Int) (Y:List F):Prop where
 vp:VP p
 ini:Inj p by' s0
 ti:TI p s0 co s
 sc0:1≤sc
 nn:∀k<nC p,0≤s.1 p.r.length k
 sl0:∀k<p.r.length,co (p.c.length+k)=0
 e0:co (nE p)=0
 len:Y.length=p.r.length
 y:∀i<p.r.length,VF (Y.getD i (0,1))∧val (Y.getD i (0,1))=(pi' p co s i:Rat)/(s.2.2:Rat)*(by' i:Rat)/(sc:Rat)
 fits:(prod (bds p) Y).2.2 =0∧∀j<p.c.length,(prod (col p j) Y).2.2 =0
theorem rq0 {a:Int} (h:0<a):(a:Rat)≠0:=by
 intro e;have:=Rat.intCast_eq_zero_iff.1 e;omega
theorem rqp {a:Int} (h:0<a):0<(a:Rat):=Rat.intCast_pos.2 h
theorem sm_pi {p:Pr} {Y:List F} {co:Nat→Int} {s s0:TS} {by':Nat→Int} {sc:Int} (h:DualP p by' s0 s co sc Y) {a:Nat→Rat} {k:Nat} (hk:k<nE p+1) (ha:∀i<p.r.length,(s0.1 i k:Rat)=(by' i:Rat)*a i):
  sm p.r.length (fun i=>a i*at' Y i)=((s.2.2*co k-s.1 p.r.length k:Int):Rat)/((s.2.2:Rat)*(sc:Rat)):=by
 have d0:=rq0 h.ti.inv.d0
 have c0:=rq0 (show 0<sc by have:=h.sc0;omega)
 have e:sm p.r.length (fun i=>a i*at' Y i)=sm p.r.length (fun i=>((pi' p co s i*s0.1 i k:Int):Rat)*(1/((s.2.2:Rat)*(sc:Rat)))):=by
  apply sm_congr;intro i hi
  have:=(h.y i hi).2
  unfold at'
  rw [this,Rat.intCast_mul,ha i hi]
  grind
 rw [e,sm_mul,sm_int]
 have e2:=h.ti.inv.pi (fun l hl=>uC_lt hl) hk
 have e3:sI p.r.length (fun i=>pi' p co s i*s0.1 i k)=s.2.2*co k-s.1 p.r.length k:=by unfold pi';omega
 rw [e3];grind
theorem div_le0 {a:Int} {d:Rat} (hd:0<d) (ha:a≤0):(a:Rat)/d≤0:=by
 have h1:(a:Rat)≤0:=Rat.intCast_nonpos.2 ha
 have h2:0<d⁻¹:=Rat.inv_pos.2 hd
 rw [Rat.div_def]
 have:=Rat.mul_nonneg (a:= -(a:Rat)) (b:=d⁻¹) (by grind) (by grind)
 grind
theorem div_ge0 {a:Int} {d:Rat} (hd:0<d) (ha:0≤a):0≤(a:Rat)/d:=by
 have h2:0<d⁻¹:=Rat.inv_pos.2 hd
 rw [Rat.div_def]
 exact Rat.mul_nonneg (Rat.intCast_nonneg.2 ha) (by grind)
theorem div_gt0 {a:Int} {d:Rat} (hd:0<d) (ha:0<a):0<(a:Rat)/d:=by
 rw [Rat.div_def];exact Rat.mul_pos (rqp ha) (Rat.inv_pos.2 hd)
theorem sg_abs {b:Int}:b=sg b*b.natAbs:=by unfold sg;split<;>omega
theorem DualP.sgn {p:Pr} {Y:List F} {co:Nat→Int} {s s0:TS} {by':Nat→Int} {sc:Int} (h:DualP p by' s0 s co sc Y):Sgn p Y:=by
 refine(sgn_iff h.vp h.len).2 fun i hi=>?_
 obtain⟨hv,hy⟩:=h.y i hi
 have d0:=rqp h.ti.inv.d0
 have c0:=rqp (show 0<sc by have:=h.sc0;omega)
 have hk:p.c.length+i<nE p+1:=by unfold nE;omega
 have e2:=h.ti.inv.pi (fun l hl=>uC_lt hl) hk
 have e3:sI p.r.length (fun l=>(s.2.2*co (uC p l)-s.1 p.r.length (uC p l))*s0.1 l (p.c.length+i))=pi' p co s i*(sg (by' i)*sns (p.r.getD i rw0)):=by
  rw [sI_one hi (fun l hl hn=>by rw [(h.ini.1 l hl).sl i hi,if_neg (Ne.symm hn),Int.mul_zero]),(h.ini.1 i hi).sl i hi,if_pos rfl];rfl
 rw [e3,h.sl0 i hi,Int.mul_zero]at e2
 have hn:=h.nn (p.c.length+i) (by unfold nC;omega)
 have hval:val (Y.getD i (0,1))=((pi' p co s i*by' i:Int):Rat)/((s.2.2:Rat)*(sc:Rat)):=by
  rw [hy,Rat.intCast_mul];grind
 have hds:0<(s.2.2:Rat)*(sc:Rat):=Rat.mul_pos d0 c0
 have hby:by' i=sg (by' i)*(by' i).natAbs :=sg_abs
 have hq:pi' p co s i*by' i=(pi' p co s i*sg (by' i))*(by' i).natAbs :=by
  conv=>lhs;rw [hby]
  rw [Int.mul_assoc]
 refine⟨hv,?_,?_⟩
 ·rintro⟨hs,hpos⟩
  have h1:sns (p.r.getD i rw0)=1:=by unfold sns;rw [if_pos hs]
  rw [h1,Int.mul_one]at e2
  have h2:(pi' p co s i*sg (by' i))*(by' i).natAbs ≤0:=Int.mul_nonpos_of_nonpos_of_nonneg (by omega) (by omega)
  have:=hv.pos.1 hpos
  rw [hval,hq]at this
  have:=div_le0 hds h2
  grind
 ·rintro⟨hs,hneg⟩
  have h1:sns (p.r.getD i rw0)= -1:=by unfold sns;rw [if_neg (by omega),if_pos hs]
  rw [h1]at e2
  have h2:0≤(pi' p co s i*sg (by' i))*(by' i).natAbs :=Int.mul_nonneg (by
   have:pi' p co s i*(sg (by' i)* -1)= -(pi' p co s i*sg (by' i)):=by grind
   omega) (by omega)
  have:=hv.neg.1 hneg
  rw [hval,hq]at this
  have:=div_ge0 hds h2
  grind
theorem DualP.col_val {p:Pr} {Y:List F} {co:Nat→Int} {s s0:TS} {by':Nat→Int} {sc:Int} (h:DualP p by' s0 s co sc Y) {j:Nat} (hj:j<p.c.length):
  VF ((prod (col p j) Y).1,(prod (col p j) Y).2.1)∧val ((prod (col p j) Y).1,(prod (col p j) Y).2.1)=((s.2.2*co j-s.1 p.r.length j:Int):Rat)/((s.2.2:Rat)*(sc:Rat)):=by
 obtain⟨k1,k2,k3,k4,k5⟩:=prod_ok' (h.fits.2 j hj)
 refine⟨k4,?_⟩
 rw [k5,show(col p j).length =p.r.length by simp [col]]
 rw [←sm_pi h (a:=fun i=>A p i j) (by unfold nE;omega) (fun i hi=>(h.ini.1 i hi).co j hj)]
 exact sm_congr fun i hi=>by rw [at_col hi]
theorem DualP.bds_val {p:Pr} {Y:List F} {co:Nat→Int} {s s0:TS} {by':Nat→Int} {sc:Int} (h:DualP p by' s0 s co sc Y):
  VF ((prod (bds p) Y).1,(prod (bds p) Y).2.1)∧val ((prod (bds p) Y).1,(prod (bds p) Y).2.1)=((-(s.1 p.r.length (nE p)):Int):Rat)/((s.2.2:Rat)*(sc:Rat)):=by
 obtain⟨k1,k2,k3,k4,k5⟩:=prod_ok' h.fits.1
 refine⟨k4,?_⟩
 rw [k5,bds_len]
 have:=sm_pi h (a:=fun i=>B p i) (k:=nE p) (by omega) (fun i hi=>by
  rw [(h.ini.1 i hi).bo];unfold B;rw [at_bds hi];rw [List.getD_eq_getElem?_getD];simp [hi])
 rw [h.e0,Int.mul_zero,Int.zero_sub]at this
 exact this
end
section
open Go.Sx Go.Fq Go.Dt
theorem bN_iff {p:Pr} {s0 s:TS} {co:Nat→Int} (I:TI p s0 co s) {i k:Nat} (hi:i<p.r.length):s.2.1 i=k↔bN s i=k:=by
 have:=I.bs i hi;unfold bN;omega
theorem sI_miss {p:Pr} {s0 s:TS} {co:Nat→Int} (I:TI p s0 co s) {i k:Nat} (hi:i<p.r.length) (e:bN s i=k) {h:Nat→Int}:sI i (fun j=>if bN s j=k then h j else 0)=0:=
 sI_zero fun j hj=>by
  rw [if_neg];intro e2
  have:=I.inv.inj (i:=j) (j:=i) (by omega) hi (e2.trans e.symm)
  omega
theorem cc_val {p:Pr} {sc:Int} (hv:VP p) (sc1:1≤sc) (hd:∀f∈p.c,f.2∣sc) {k:Nat} (hk:k<p.c.length):at' p.c k=(cc p sc k:Rat)/(sc:Rat):=by
 have h0:=rq0 (show 0<sc by omega)
 have h1:=all_at hv.2.2.2.1 (i:=k) hk
 have h2:=all_at (P:=fun f=>f.2∣sc) hd (i:=k) hk
 unfold cc at'
 rw [if_pos hk,iv_val h1 h2];grind
theorem cc_hi {p:Pr} {sc:Int} {k:Nat} (hk:p.c.length≤k):cc p sc k=0:=by unfold cc;rw [if_neg (by omega)]
theorem dir_nn {p:Pr} {s:TS} {d:Int} {c:Nat} (hd:0<d) (hle:∀i<p.r.length,s.1 i c≤0) (k:Nat):0≤dir p.r.length s.1 (bN s) d c k:=by
 have h1:0≤sI p.r.length (fun j=> -(if bN s j=k then s.1 j c else 0)):=sI_nonneg fun j hj=>by
  have:=hle j hj;split<;>omega
 have h2:sI p.r.length (fun j=> -(if bN s j=k then s.1 j c else 0))= -sI p.r.length (fun j=>if bN s j=k then s.1 j c else 0):=by
  have:=sI_mul (f:=fun j=>if bN s j=k then s.1 j c else 0) (c:= -1) (n:=p.r.length)
  simp only [Int.neg_mul,Int.one_mul]at this;exact this
 unfold dir
 split<;>omega
theorem dir_row {p:Pr} {by':Nat→Int} {s0 s:TS} {co:Nat→Int} (hi:Inj p by' s0) (I:TI p s0 co s) (Z:Azr p s) {c l:Nat} (hc:c<nC p) (hl:l<p.r.length):
  sI p.c.length (fun k=>s0.1 l k*dir p.r.length s.1 (bN s) s.2.2 c k)= -(sg (by' l)*sns (p.r.getD l rw0)*dir p.r.length s.1 (bN s) s.2.2 c (p.c.length+l)):=by
 have hcE:c<nE p:=by unfold nC at hc;unfold nE;omega
 have h1:=sI_dir (n:=nE p) (g:=fun k=>s0.1 l k) (f:=s.1) (bs:=bN s) (d:=s.2.2) (c:=c) (m:=p.r.length) (fun j hj hb=>by have:=I.bs j hj;unfold bN at hb;omega) (fun h=>by omega)
 have h2:=I.inv.col c (by omega) l hl
 have h3:sI p.r.length (fun j=>s0.1 l (bN s j)*s.1 j c)=sI p.r.length (fun j=>s.1 j c*s0.1 l (bN s j)):=sI_congr fun j _=>Int.mul_comm _ _
 rw [h3,←h2,Int.sub_self]at h1
 rw [show nE p=p.c.length+(p.r.length+p.r.length)by unfold nE;omega,sI_split,sI_split]at h1
 have e1:sI p.r.length (fun i=>s0.1 l (p.c.length+i)*dir p.r.length s.1 (bN s) s.2.2 c (p.c.length+i))=sg (by' l)*sns (p.r.getD l rw0)*dir p.r.length s.1 (bN s) s.2.2 c (p.c.length+l):=by
  rw [sI_one hl (fun j hj hn=>by rw [(hi.1 l hl).sl j hj,if_neg hn,Int.zero_mul]),(hi.1 l hl).sl l hl,if_pos rfl]
 have e2:sI p.r.length (fun i=>s0.1 l (p.c.length+(p.r.length+i))*dir p.r.length s.1 (bN s) s.2.2 c (p.c.length+(p.r.length+i)))=0:=by
  apply sI_zero;intro j hj
  have:dir p.r.length s.1 (bN s) s.2.2 c (p.c.length+(p.r.length+j))=0:=by
   unfold dir
   rw [if_neg (by unfold nC at hc;omega),sI_zero]
   ·rfl
   ·intro i hi'
    split
    ·rename_i e
     exact Z i hi' (by have:=I.bs i hi';unfold bN at e;unfold nC;omega) c hc
    ·rfl
  rw [this,Int.mul_zero]
 rw [e1,e2]at h1
 omega
end
end Go.Proofs.YtbcjojomkibgeaaGreat
