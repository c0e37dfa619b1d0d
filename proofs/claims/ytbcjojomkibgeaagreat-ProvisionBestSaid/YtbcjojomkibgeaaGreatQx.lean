/- Lemmas of this seat. Conditions: as stated. -/
import Derived.Test.YtbcjojomkibgeaaGreatQg
import Derived.Test.YtbcjojomkibgeaaGreatQ11
set_option linter.unusedVariables false
set_option linter.unusedSimpArgs false
set_option maxHeartbeats 2000000
set_option maxRecDepth 4000
namespace Go.Proofs.YtbcjojomkibgeaaGreat
section
open Go.Sx Go.Fq Go.Dt
theorem inj_bd {p:Pr} {by':Nat→Int} {s0:TS} (hv:VP p) (hs:Sml p) (hi:Inj p by' s0) (hb:∀i<p.r.length,by' i=1∨by' i= -1) {l:Nat} (hl:l<p.r.length):
  (∀k<nE p,(s0.1 l k).natAbs ≤1)∧(s0.1 l (nE p)).natAbs ≤50∧(∀k<p.r.length,k≠l→s0.1 l (p.c.length+k)=0∧s0.1 l (p.c.length+p.r.length+k)=0):=by
 obtain⟨_,_,_,_,hv5⟩:=hv
 have R:=hi.1 l hl
 have hw:=gd_mem (d:=rw0) hl
 generalize p.r.getD l rw0=w at*
 have hw5:=(hv5 w hw).1
 have hb:=hb l hl
 generalize by' l=b at*
 obtain⟨r1,r2,r3⟩:=hs.r w hw
 refine⟨fun k hk=>?_,?_,fun k hk hn=>⟨by rw [R.sl k hk,if_neg hn],by rw [R.ar k hk,if_neg hn]⟩⟩
 ·by_cases e1:k<p.c.length
  ·have hm:=gd_mem (d:=((0,1):F)) (show k<w.1.length by omega)
   have e:=R.co k e1
   rw [val_d1 (r1 _ hm).1,←Rat.intCast_mul]at e
   have e:=Rat.intCast_inj.1 e
   rw [e,pm_bd hb];exact(r1 _ hm).2
  ·by_cases e2:k<p.c.length+p.r.length
   ·have e:=R.sl (k-p.c.length) (by omega)
    rw [show p.c.length+(k-p.c.length)=k by omega]at e
    rw [e];split
    ·rw [pm_bd sg_bd];have:=sns_bd (w:=w);omega
    ·decide
   ·have e:=R.ar (k-p.c.length-p.r.length) (by unfold nE at hk;omega)
    rw [show p.c.length+p.r.length+(k-p.c.length-p.r.length)=k by omega]at e
    rw [e];split<;>decide
 ·have e:=R.bo
  rw [val_d1 r2,←Rat.intCast_mul]at e
  have e:=Rat.intCast_inj.1 e
  show(s0.1 l (p.c.length+2*p.r.length)).natAbs ≤50
  rw [e,pm_bd hb];exact r3
theorem tbd_inj {p:Pr} {by':Nat→Int} {s0 s:TS} {cf:Nat→Int} (hv:VP p) (hs:Sml p) (hi:Inj p by' s0) (hb:∀i<p.r.length,by' i=1∨by' i= -1) (I:TI p s0 cf s) (hc:cf=cst p.c.length p.r.length p.r.length∨cf=cc p 1):TBd p.r.length (nE p) s:=by
 have hcf:(∀k,(cf k).natAbs ≤10)∧cf (nE p)=0:=by
  rcases hc with e|e<;>subst e
  ·exact⟨fun k=>cst_10,by unfold cst;rw [if_neg (by unfold nE;omega)]⟩
  ·exact⟨fun k=>cc_10 hs,cc_hi (by unfold nE;omega)⟩
 refine tbd_of hs.m4 hs.n4 I.inv I.bs (fun l hl k hk=>(inj_bd hv hs hi hb hl).1 k hk) (fun k hk hn=>?_) (fun l hl=>(inj_bd hv hs hi hb hl).2.1) hcf.1 hcf.2
 by_cases e:k<p.c.length+p.r.length
 ·refine⟨k-p.c.length,fun l hl hne=>?_⟩
  have:=((inj_bd hv hs hi hb hl).2.2 (k-p.c.length) (by omega) (by omega)).1
  rw [show p.c.length+(k-p.c.length)=k by omega]at this;exact this
 ·refine⟨k-p.c.length-p.r.length,fun l hl hne=>?_⟩
  unfold nE at hk
  have:=((inj_bd hv hs hi hb hl).2.2 (k-p.c.length-p.r.length) (by omega) (by omega)).2
  rw [show p.c.length+p.r.length+(k-p.c.length-p.r.length)=k by omega]at this;exact this
theorem tot_le {A m:Nat}:∀{a b:List Int},(∀x∈a,x.natAbs≤A)→(∀x∈b,x.natAbs≤m)→tot a b≤A*m*a.length
 |[],_,_,_=>by simp [tot]
 |_::_,[],_,_=>by simp [tot]
 |x::xs,y::ys,ha,hb=>by
  have h1:=ha x (by simp)
  have h2:=hb y (by simp)
  have:=tot_le (a:=xs) (b:=ys) (fun z hz=>ha z (by simp [hz])) (fun z hz=>hb z (by simp [hz]))
  have h3:(x*y).natAbs ≤A*m:=by rw [Int.natAbs_mul];exact Nat.mul_le_mul h1 h2
  simp only [tot,List.length_cons]
  rw [Nat.mul_add];omega
theorem prod_fit {a X:List F} {A m:Nat} {g:Nat→Int} {d:Int} (hl:a.length=X.length) (d0:0<d) (d1:d≤24) (va:∀f∈a,VF f) (ha:∀f∈a,f.2=1∧f.1.natAbs≤A)
  (vX:∀k<X.length,VF (X.getD k (0,1))∧at' X k=(g k:Rat)/(d:Rat)) (hg:∀k<X.length,(g k).natAbs ≤m) (hm:A*m*a.length≤1073741824):(prod a X).2.2 =0:=by
 unfold prod
 rw [if_pos hl]
 have hX:∀f∈X,VF f:=fun f hf=>by
  obtain⟨i,hi,rfl⟩:=List.getElem_of_mem hf
  have:=(vX i hi).1
  rw [List.getD_eq_getElem?_getD,List.getElem?_eq_getElem hi]at this;exact this
 refine pgo_fit (d:=d) d0 (by show d.natAbs≤1073741824;omega) (ga:=a.map Prod.fst) (gb:=(List.range X.length).map g) (S:=0) hl (by simp) (by simp) va hX (fun i hi=>?_) (fun i hi=>?_) vf_zero (by rw [val_zero];simp [Rat.div_def,Rat.zero_mul]) ?_
 ·rw [at_get hi,val_d1 (ha _ (List.getElem_mem hi)).1,List.getD_eq_getElem?_getD];simp [hi]
 ·rw [(vX i hi).2,List.getD_eq_getElem?_getD];simp [hi]
 ·have:=tot_le (A:=A) (m:=m) (a:=a.map Prod.fst) (b:=(List.range X.length).map g) (fun x hx=>by obtain⟨f,hf,rfl⟩:=List.mem_map.1 hx;exact(ha f hf).2) (fun x hx=>by obtain⟨i,hi,rfl⟩:=List.mem_map.1 hx;exact hg i (List.mem_range.1 hi))
  rw [List.length_map]at this
  show _≤1073741824
  simp only [Int.natAbs_zero];omega
theorem xE_bd {p:Pr} {s:TS} (hm:p.r.length≤20) (B:TBd p.r.length (nE p) s) (k:Nat):(xE p s k).natAbs ≤120000:=by
 have:=sI_abs (f:=fun j=>if bN s j=k then s.1 j (nE p)else 0) (B:=6000) (n:=p.r.length) (fun j hj=>by split;exact B.r j hj;decide)
 unfold xE
 have:p.r.length*6000≤20*6000:=Nat.mul_le_mul_right _ hm
 omega
theorem y_fit {p:Pr} {s:TS} {cf:Nat→Int} {tu sl:Nat→Int} {own:Int} {Y:List F} (hv:VP p) (hs:Sml p) (B:TBd p.r.length (nE p) s) (hb:∀i<p.r.length,tu i*sl i=1∨tu i*sl i= -1) (ho:own=0∨own=1) (hco:∀i<p.r.length,cf (uC p i)=own) (hY:Y.length=p.r.length)
  (h:DuV s.1 s.2.2 p.c.length p.r.length own 1 tu sl p.r.length Y):(prod (bds p) Y).2.2 =0∧∀j<p.c.length,(prod (col p j) Y).2.2 =0:=by
 have hd:=B.d
 have key:∀i<Y.length,VF (Y.getD i (0,1))∧at' Y i=((pi' p cf s i*(tu i*sl i):Int):Rat)/(s.2.2:Rat):=fun i hi=>by
  obtain⟨h1,h2⟩:=du_y (co:=cf) h (by omega) (by decide) hco (i:=i) (by omega)
  refine⟨h1,?_⟩
  have d1:=rq0 (show 0<s.2.2 by omega)
  rw [h2,Rat.intCast_mul,show((1:Int):Rat)=1 from rfl];grind
 have hN:∀i<Y.length,(pi' p cf s i*(tu i*sl i)).natAbs ≤24264:=fun i hi=>by
  have hc:=B.c (uC p i) (by unfold uC nE;omega)
  have hp:(pi' p cf s i).natAbs ≤24264:=by
   unfold pi';rw [hco i (by omega)]
   rcases ho with e|e<;>subst e<;>omega
  rcases hb i (by omega)with e|e<;>rw [e]<;>omega
 have h5:=hv.2.2.2.2
 have hm:=hs.m4
 refine⟨prod_fit (A:=50) (m:=24264) (by unfold bds;simp [hY]) (by omega) hd.2 (fun f hf=>?_) (fun f hf=>?_) key hN (by unfold bds;rw [List.length_map];omega),fun j hj=>prod_fit (A:=1) (m:=24264) (by unfold col;simp [hY]) (by omega) hd.2 (fun f hf=>?_) (fun f hf=>?_) key hN (by unfold col;rw [List.length_map];omega)⟩
 ·obtain⟨w,hw,rfl⟩:=List.mem_map.1 hf;exact(h5 w hw).2.2.2.2
 ·obtain⟨w,hw,rfl⟩:=List.mem_map.1 hf;exact(hs.r w hw).2
 ·obtain⟨w,hw,rfl⟩:=List.mem_map.1 hf;exact(h5 w hw).2.2.2.1 _ (gd_mem (by have:=(h5 w hw).1;omega))
 ·obtain⟨w,hw,rfl⟩:=List.mem_map.1 hf;exact(hs.r w hw).1 _ (gd_mem (by have:=(h5 w hw).1;omega))
theorem solv_inf {p:Pr} {tu sl:Nat→Int} {s0 s1:TS} {z:Int} {Y:List F} (hs:Sml p) (hb:∀i<p.r.length,tu i*sl i=1∨tu i*sl i= -1) (h:Qh1 p (fun a=>tu a*sl a) s0 s1 z) (ho:s1.1 p.r.length (nE p)<0) (hY:Y.length=p.r.length) (pY:DuV s1.1 s1.2.2 p.c.length p.r.length 1 1 tu sl p.r.length Y):Inf p Y:=by
 obtain⟨I,hn,hc⟩:=ph1_cost h
 have c0:∀k,k<p.c.length+p.r.length∨k=nE p→cst p.c.length p.r.length p.r.length k=0:=fun k hk=>by
  unfold cst;rw [if_neg (by unfold nE at hk;omega)]
 have c1:∀i<p.r.length,cst p.c.length p.r.length p.r.length (uC p i)=1:=fun i hi=>by unfold cst uC;rw [if_pos (by omega)]
 have hp:=y_fit h.vp hs (tbd_inj h.vp hs h.ini hb I (.inl rfl)) hb (.inr rfl) c1 hY pY
 have Dp:DualP p (fun a=>tu a*sl a) s0 s1 (cst p.c.length p.r.length p.r.length) 1 Y:=by
  refine⟨h.vp,h.ini,I,by decide,hc,fun k hk=>c0 _ (.inl (by omega)),c0 _ (.inr rfl),hY,fun i hi=>?_,hp⟩
  exact du_y pY I.inv.d0 (by decide) c1 hi
 have d0:=rqp I.inv.d0
 have hd1:0<(s1.2.2:Rat)*((1:Int):Rat):=Rat.mul_pos d0 (rqp (by decide))
 refine⟨Dp.sgn,fun j hj=>⟨hp.2 j hj,?_⟩,hp.1,?_⟩
 ·obtain⟨v1,v2⟩:=Dp.col_val hj
  rw [fcmp_le v1 vf_zero,v2,val_zero]
  apply div_le0 hd1
  rw [c0 j (.inl (by omega))]
  have:=hc j (by unfold nC;omega)
  omega
 ·obtain⟨v1,v2⟩:=Dp.bds_val
  apply v1.pos.2
  rw [v2]
  apply div_gt0 hd1
  omega
end
section
open Go.Sx Go.Fq Go.Dt
def rk (n:Nat) (x:Nat→Rat) (w:Rw):Prop:=
 (w.2.1=1→sm n (fun j=>at' w.1 j*x j)≤val w.2.2)∧(w.2.1=2→val w.2.2≤sm n (fun j=>at' w.1 j*x j))∧(w.2.1=3→sm n (fun j=>at' w.1 j*x j)=val w.2.2)
theorem gd_rw {p:Pr} {i:Nat} (hi:i<p.r.length):p.r.getD i rw0=p.r[i]:=by
 rw [List.getD_eq_getElem?_getD,List.getElem?_eq_getElem hi];rfl
theorem rfeas_iff {p:Pr} {x:Nat→Rat}:RFeas p x↔(∀j<p.c.length,0≤x j)∧∀w∈p.r,rk p.c.length x w:=by
 have eA:∀{i},(hi:i<p.r.length)→sm p.c.length (fun j=>A p i j*x j)=sm p.c.length (fun j=>at' p.r[i].1 j*x j):=fun hi=>sm_congr fun j _=>by rw [at_row hi]
 have eB:∀{i},(hi:i<p.r.length)→B p i=val p.r[i].2.2 :=fun hi=>at_bds hi
 constructor
 ·intro h
  refine⟨h.nn,fun w hw=>?_⟩
  obtain⟨i,hi,rfl⟩:=List.getElem_of_mem hw
  have h1:=h.r1 i hi
  have h2:=h.r2 i hi
  have h3:=h.r3 i hi
  rw [gd_rw hi,eA hi,eB hi]at h1 h2 h3
  exact⟨h1,h2,h3⟩
 ·rintro⟨h0,h⟩
  refine⟨h0,fun i hi=>?_,fun i hi=>?_,fun i hi=>?_⟩<;>rw [gd_rw hi,eA hi,eB hi]
  ·exact(h _ (List.getElem_mem hi)).1
  ·exact(h _ (List.getElem_mem hi)).2.1
  ·exact(h _ (List.getElem_mem hi)).2.2
def cst' (p:Pr) (x:Nat→Rat):Rat:=sm p.c.length (fun j=>cR p j*x j)
structure Sem (p:Pr) (s:Int) (v:Rat):Prop where
 st:s=1∨s=2∨s=3
 v0:s≠1→v=0
 att:s=1→∃x,RFeas p x∧cst' p x=v
 low:s=1→∀x,RFeas p x→v≤cst' p x
 unb:s=2→∀M:Rat,∃x,RFeas p x∧cst' p x<M
 inf:s=3→∀x,¬RFeas p x
theorem sm_lin {n:Nat} {f g:Nat→Rat} {t:Rat}:sm n (fun j=>f j+t*g j)=sm n f+t*sm n g:=by
 rw [sm_add,sm_mul']
theorem ray_step {p:Pr} {x r:Nat→Rat} (hx:RFeas p x) (hr:RRay p r) {t:Rat} (ht:0≤t):RFeas p (fun j=>x j+t*r j):=by
 have e:∀i,sm p.c.length (fun j=>A p i j*(x j+t*r j))=sm p.c.length (fun j=>A p i j*x j)+t*sm p.c.length (fun j=>A p i j*r j):=fun i=>by
  rw [←sm_lin];exact sm_congr fun j _=>by grind
 refine⟨fun j hj=>?_,fun i hi hs=>?_,fun i hi hs=>?_,fun i hi hs=>?_⟩
 ·have:=Rat.mul_nonneg ht (hr.nn j hj);have:=hx.nn j hj;grind
 ·rw [e]
  have h1:=hx.r1 i hi hs
  have h2:=Rat.mul_nonneg ht (show 0≤-(sm p.c.length (fun j=>A p i j*r j))by have:=hr.r1 i hi hs;grind)
  grind
 ·rw [e]
  have h1:=hx.r2 i hi hs
  have h2:=Rat.mul_nonneg ht (hr.r2 i hi hs)
  grind
 ·rw [e,hx.r3 i hi hs,hr.r3 i hi hs];grind
theorem RSol.sem {p:Pr} (hv:SnOK p) {s:Int} {v:Rat} (h:RSol p s v):Sem p s v:=by
 cases h with
 |opt hx hy hc h1 h2=>
  exact⟨.inl rfl,fun h=>absurd rfl h,fun _=>⟨_,hx,h1⟩,fun _ x' hx'=>by have:=hx'.weak hy hv hc;rw [h2]at this;exact this,fun h=>absurd h (by decide),fun h=>absurd h (by decide)⟩
 |@unb x r hx hr hn=>
  refine⟨.inr (.inl rfl),fun _=>rfl,fun h=>absurd h (by decide),fun h=>absurd h (by decide),fun _ M=>?_,fun h=>absurd h (by decide)⟩
  let g:=sm p.c.length (fun j=>cR p j*r j)
  let c0:=cst' p x
  have hg:0< -g:=by show 0< -(sm _ _);grind
  by_cases hM:c0<M
  ·exact⟨x,hx,hM⟩
  have h1:0≤(c0-M)+1:=by have:M≤c0:=Rat.not_lt.1 hM;grind
  have hi:0<(-g)⁻¹:=Rat.inv_pos.2 hg
  refine⟨fun j=>x j+((c0-M)+1)*(-g)⁻¹*r j,ray_step hx hr (Rat.mul_nonneg h1 (Rat.le_of_lt hi)),?_⟩
  have e:cst' p (fun j=>x j+((c0-M)+1)*(-g)⁻¹*r j)=c0+((c0-M)+1)*(-g)⁻¹*g:=by
   show sm _ _=_
   rw [sm_congr (g:=fun j=>cR p j*x j+((c0-M)+1)*(-g)⁻¹*(cR p j*r j)) (fun j _=>by grind),sm_lin];rfl
  rw [e]
  have e2:(-g)⁻¹*g= -1:=by
   have:(-g)*(-g)⁻¹=1:=Rat.mul_inv_cancel _ (by grind)
   grind
  have e3:((c0-M)+1)*(-g)⁻¹*g=((c0-M)+1)*((-g)⁻¹*g):=by grind
  rw [e3,e2];grind
 |inf hy hc hp=>exact⟨.inr (.inr rfl),fun _=>rfl,fun h=>absurd h (by decide),fun h=>absurd h (by decide),fun h=>absurd h (by decide),fun _ x hx=>absurd hp (RSol.noinf hv hx hy hc)⟩
theorem feas_r {p:Pr} {x:List F} (hf:Feas p x):RFeas p (at' x):=by
 refine rfeas_iff.2 ⟨fun j hj=>feas_x hf hj,fun w hw=>?_⟩
 obtain⟨hv,hxl,hxv,hx0,hrow⟩:=hf
 obtain⟨h1,h2⟩:=hrow w hw
 obtain⟨k1,k2,k3,k4,k5⟩:=prod_ok' h1
 obtain⟨v1,v2,v3,v4,v5⟩:=hv.2.2.2.2 w hw
 rw [v1]at k5
 refine⟨fun e=>?_,fun e=>?_,fun e=>?_⟩<;>rw [←k5]<;>rcases h2 with⟨hs,h2⟩|⟨hs,h2⟩|⟨hs,h2⟩<;>first|(exfalso;omega)|skip
 ·exact(fcmp_le k4 v5).1 h2
 ·exact(fcmp_ge k4 v5).1 h2
 ·exact(fcmp_eq k4 v5).1 h2
end
end Go.Proofs.YtbcjojomkibgeaaGreat
