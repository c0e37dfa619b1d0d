/- Lemmas of this seat. Conditions: as stated. -/
import Derived.Test.YtbcjojomkibgeaaGreatQf
import Derived.Test.YtbcjojomkibgeaaGreatPl
set_option linter.unusedVariables false
set_option linter.unusedSimpArgs false
set_option maxHeartbeats 2000000
set_option maxRecDepth 4000
namespace Go.Proofs.YtbcjojomkibgeaaGreat
section
open Go.Sx Go.Fq Go.Dt
structure Sml (p:Pr):Prop where
 n4:p.c.length≤4
 m4:p.r.length≤20
 c:∀f∈p.c,f.2=1∧f.1.natAbs≤10
 r:∀w∈p.r,(∀f∈w.1,f.2=1∧f.1.natAbs≤1)∧w.2.2.2=1∧w.2.2.1.natAbs≤50
theorem Sml.d1 {p:Pr} (h:Sml p):D1 p:=⟨fun f hf=>(h.c f hf).1,fun w hw=>⟨fun f hf=>((h.r w hw).1 f hf).1,(h.r w hw).2.1⟩⟩
theorem b62_of {x:Int} (h:x.natAbs≤4000000000000000000):B62 x:=by unfold B62;omega
theorem b62_mul {x y:Int} (hx:x.natAbs≤1000000000) (hy:y.natAbs≤1000000000):(x*y).natAbs ≤1000000000000000000:=by
 rw [Int.natAbs_mul];exact Nat.mul_le_mul hx hy
theorem mulB {x y:Int} {a b:Nat} (hx:x.natAbs≤a) (hy:y.natAbs≤b):(x*y).natAbs ≤a*b:=by
 rw [Int.natAbs_mul];exact Nat.mul_le_mul hx hy
theorem fnew_fit {a b:Int} (hb:0<b) (h1:a.natAbs≤1073741824) (h2:b.natAbs≤1073741824):(fnew a b).2.2 =0:=by
 unfold fnew
 rw [if_neg (by omega),Rat.divInt_eq_div]
 exact(fenc_fit (sm_div hb h1 h2)).1
theorem rdc_bd {c:Nat→Int} {d:Int} {bs:Nat→Int} {f:Nat→Nat→Int} {m k:Nat} (hc:∀k,(c k).natAbs ≤10) (hd:d.natAbs≤240000) (hf:∀i<m,(f i k).natAbs ≤24000000):∀{i:Nat},i≤m→(rdc c d bs f i k).natAbs ≤2400000+i*240000000
 |0,_=>by
  have:=mulB (hc k) hd
  simp only [rdc];omega
 |i+1,hi=>by
  have h1:=rdc_bd hc hd hf (bs:=bs) (show i≤m by omega)
  have h2:=mulB (hc (bs i).toNat) (hf i (by omega))
  simp only [rdc];omega
theorem prF_small {c:Nat→Int} {d:Int} {bs:Nat→Int} {f:Nat→Nat→Int} {m w:Nat} (hm:m≤20) (hc:∀k,(c k).natAbs ≤10) (hd:d.natAbs≤240000) (hf:∀i<m,∀k<w,(f i k).natAbs ≤24000000):PrF c d bs f m w:=fun k hk=>
 ⟨fun i hi=>b62_of (by have:=rdc_bd (bs:=bs) (k:=k) hc hd (fun i hi=>hf i hi k hk) hi;omega),fun i hi=>b62_of (by have:=mulB (hc (bs i).toNat) (hf i hi k hk);omega)⟩
structure TBd (m E:Nat) (s:TS):Prop where
 d:1≤s.2.2∧s.2.2≤24
 e:∀i<m,∀k<E,(s.1 i k).natAbs ≤120
 r:∀i<m,(s.1 i E).natAbs ≤6000
 c:∀k<E,(s.1 m k).natAbs ≤24240
 v:(s.1 m E).natAbs ≤1200000
theorem tbd_of {n m E:Nat} {T0:M} {u:Nat→Nat} {cf:Nat→Int} {s:TS} (hm:m≤20) (hn:n≤4) (I:Inv m (E+1) T0 u cf s.1 (bN s) s.2.2) (hb:∀i<m,0≤s.2.1 i∧s.2.1 i<E) (h:∀l<m,∀k<E,(T0 l k).natAbs ≤1) (hu:∀k<E,n≤k→Un m (fun l=>T0 l k)) (h1:∀l<m,(T0 l E).natAbs ≤50)
  (hc:∀k,(cf k).natAbs ≤10) (hE:cf E=0):TBd m E s:=by
 obtain⟨b1,b2,b3⟩:=I.bdk (e:=E) (n:=n) (W:=50) (by omega) (fun i hi=>by have:=hb i hi;show(s.2.1 i).toNat ≠E;omega) (fun l hl k hk hn=>h l hl k (by omega)) (fun k hk hn he=>hu k (by omega) hn) h1
 have d0:=I.d0
 have f1:fac n≤24:=fac_mono (b:=4) hn
 have f2:fac (n+1)≤120:=fac_mono (b:=5) (by omega)
 have b4:∀i<m,∀k<E,(s.1 i k).natAbs ≤120:=fun i hi k hk=>Nat.le_trans (b2 i hi k (by omega) (by omega)) f2
 have b5:∀i<m,(s.1 i E).natAbs ≤6000:=fun i hi=>Nat.le_trans (b3 i hi) (by omega)
 refine⟨⟨by omega,by omega⟩,b4,b5,fun k hk=>?_,?_⟩
 ·rw [I.cost k (by omega)]
  have e1:=mulB (x:=s.2.2) (y:=cf k) (a:=24) (by omega) (hc k)
  have e2:=sI_abs (f:=fun i=>cf (bN s i)*s.1 i k) (B:=10*120) (n:=m) (fun i hi=>mulB (hc _) (b4 i hi k hk))
  have e3:m*(10*120)≤20*(10*120):=Nat.mul_le_mul_right _ hm
  omega
 ·rw [I.cost E (by omega),hE,Int.mul_zero]
  have e2:=sI_abs (f:=fun i=>cf (bN s i)*s.1 i E) (B:=10*6000) (n:=m) (fun i hi=>mulB (hc _) (b5 i hi))
  have e3:m*(10*6000)≤20*(10*6000):=Nat.mul_le_mul_right _ hm
  omega
theorem TBd.all {m E:Nat} {s:TS} (h:TBd m E s) {a b:Nat} (ha:a<m+1) (hb:b<E+1):(s.1 a b).natAbs ≤1000000000:=by
 by_cases e1:a=m
 ·subst e1
  by_cases e2:b=E
  ·subst e2;have:=h.v;omega
  ·have:=h.c b (by omega);omega
 ·by_cases e2:b=E
  ·subst e2;have:=h.r a (by omega);omega
  ·have:=h.e a (by omega) b (by omega);omega
theorem TBd.f {m E:Nat} {s:TS} (h:TBd m E s) {c:Nat} (hc:c<E):LeF s.1 m E c∧∀r<m,PvF s.1 m (E+1) r c:=by
 refine⟨fun i hi k hk=>b62_of (by have:=b62_mul (h.all (show i<m+1 by omega) (show E<E+1 by omega)) (h.all (show k<m+1 by omega) (show c<E+1 by omega));omega),fun r hr a ha b hb=>?_⟩
 have h1:=b62_mul (h.all ha hb) (h.all (show r<m+1 by omega) (show c<E+1 by omega))
 have h2:=b62_mul (h.all ha (show c<E+1 by omega)) (h.all (show r<m+1 by omega) hb)
 exact⟨b62_of (by omega),b62_of (by omega),b62_of (by omega)⟩
theorem TBd.du {n m E:Nat} {s:TS} (hE:E=n+2*m) (h:TBd m E s) {own:Int} (ho:own=0∨own=1) {tu sl:Nat→Int} {i:Nat} (hi:i<m) (ht:tu i=1∨tu i= -1) (hs:sl i=1):DuP s.1 s.2.2 n m own 1 tu sl i:=by
 have hd:=h.d
 have hc:=h.c (n+m+i) (by omega)
 have e1:own*s.2.2=0∨own*s.2.2=s.2.2:=by rcases ho with e|e<;>subst e<;>simp
 have hy:(own*s.2.2-s.1 m (n+m+i)).natAbs ≤12240000:=by omega
 have e2:((own*s.2.2-s.1 m (n+m+i))*tu i).natAbs ≤12240000:=by
  rcases ht with e|e<;>rw [e]<;>omega
 refine⟨b62_of (by omega),b62_of (by omega),b62_of (by omega),?_,?_,?_,?_⟩
 ·rw [hs,Int.mul_one];exact b62_of (by omega)
 ·rw [Int.mul_one];exact b62_of (by omega)
 ·omega
 ·rw [hs,Int.mul_one,Int.mul_one];exact fnew_fit (by omega) (by omega) (by omega)
end
section
open Go.Sx Go.Fq Go.Dt
theorem val_d1 {f:F} (h:f.2=1):val f=(f.1:Rat):=by
 obtain⟨a,b⟩:=f;dsimp only at h;subst h;exact val_int a
theorem gd_mem {α:Type} {l:List α} {k:Nat} {d:α} (h:k<l.length):l.getD k d∈l:=by
 rw [List.getD_eq_getElem?_getD,List.getElem?_eq_getElem h];exact List.getElem_mem _
theorem pm_bd {b x:Int} (h:b=1∨b= -1):(b*x).natAbs =x.natAbs:=by
 rcases h with h|h<;>subst h<;>omega
theorem sns_bd {w:Rw}:(sns w).natAbs ≤1:=by
 unfold sns;split
 ·decide
 ·split<;>decide
theorem sg_bd {b:Int}:sg b=1∨sg b= -1:=by unfold sg;split<;>simp
theorem t0_bd {p:Pr} {ov:Prop} {f:Nat→Nat→Int} {bs tu sl:Nat→Int} {co:Int} (hv:VP p) (hs:Sml p) (h:BuA p p.r.length ov f bs tu sl co) {l:Nat} (hl:l<p.r.length):
  (∀k<nE p,(f l k).natAbs ≤1)∧(f l (nE p)).natAbs ≤50∧(∀k<p.r.length,k≠l→f l (p.c.length+k)=0∧f l (p.c.length+p.r.length+k)=0):=by
 obtain⟨h1,h2,h3⟩:=h.one hs.d1
 obtain⟨_,_,_,_,hv5⟩:=hv
 have R:=(h.ex h1).2 l hl
 have hw:=gd_mem (d:=rw0) hl
 generalize p.r.getD l rw0=w at*
 have hw5:=(hv5 w hw).1
 have hb:tu l*sl l=1∨tu l*sl l= -1:=by rw [h3 l hl,Int.mul_one];exact h.ht l hl
 generalize tu l*sl l=b at*
 obtain⟨r1,r2,r3⟩:=hs.r w hw
 refine⟨fun k hk=>?_,?_,fun k hk hn=>⟨by rw [R.sl k hk,if_neg hn],by rw [R.ar k hk,if_neg hn]⟩⟩
 ·by_cases e1:k<p.c.length
  ·have hm:=gd_mem (d:=((0,1):F)) (show k<w.1.length by omega)
   have e:=R.co k e1
   rw [val_d1 (r1 _ hm).1,←Rat.intCast_mul]at e
   have e:=Rat.intCast_inj.1 e
   rw [e,pm_bd hb];exact(r1 _ hm).2
  ·by_cases e2:k<p.c.length+p.r.length
   ·have e:=R.sl (k-p.c.length) (by omega)
    rw [show p.c.length+(k-p.c.length)=k by omega]at e
    rw [e];split
    ·rw [pm_bd sg_bd];have:=sns_bd (w:=w);omega
    ·decide
   ·have e:=R.ar (k-p.c.length-p.r.length) (by unfold nE at hk;omega)
    rw [show p.c.length+p.r.length+(k-p.c.length-p.r.length)=k by omega]at e
    rw [e];split<;>decide
 ·have e:=R.bo
  rw [val_d1 r2,←Rat.intCast_mul]at e
  have e:=Rat.intCast_inj.1 e
  show(f l (p.c.length+2*p.r.length)).natAbs ≤50
  rw [e,pm_bd hb];exact r3
theorem cst_10 {n m i k:Nat}:(cst n m i k).natAbs ≤10:=by unfold cst;split<;>decide
theorem cc_10 {p:Pr} (hs:Sml p) {k:Nat}:(cc p 1 k).natAbs ≤10:=by
 unfold cc;split
 ·rename_i hk
  have hm:=gd_mem (d:=((0,1):F)) hk
  obtain⟨c1,c2⟩:=hs.c _ hm
  rw [c1];simpa using c2
 ·decide
theorem fits_of {p:Pr} (hv:VP p) (hs:Sml p):Fits p:=by
 intro ov f bs tu sl co h
 obtain⟨h1,h2,h3⟩:=h.one hs.d1
 subst h2
 have hT:∀g,(∀l<p.r.length,∀k<nE p,(up2 f p.r.length g l k).natAbs ≤1)∧(∀l<p.r.length,(up2 f p.r.length g l (nE p)).natAbs ≤50)∧∀k<nE p,p.c.length≤k→Un p.r.length (fun l=>up2 f p.r.length g l k):=fun g=>
  ⟨fun l hl k hk=>by unfold up2;rw [if_neg (by omega)];exact(t0_bd hv hs h hl).1 k hk,fun l hl=>by unfold up2;rw [if_neg (by omega)];exact(t0_bd hv hs h hl).2.1,fun k hk hn=>by
   by_cases e:k<p.c.length+p.r.length
   ·refine⟨k-p.c.length,fun l hl hne=>?_⟩
    have:=((t0_bd hv hs h hl).2.2 (k-p.c.length) (by omega) (by omega)).1
    show up2 f p.r.length g l k=0
    unfold up2;rw [if_neg (by omega)]
    rw [show p.c.length+(k-p.c.length)=k by omega]at this;exact this
   ·refine⟨k-p.c.length-p.r.length,fun l hl hne=>?_⟩
    unfold nE at hk
    have:=((t0_bd hv hs h hl).2.2 (k-p.c.length-p.r.length) (by omega) (by omega)).2
    show up2 f p.r.length g l k=0
    unfold up2;rw [if_neg (by omega)]
    rw [show p.c.length+p.r.length+(k-p.c.length-p.r.length)=k by omega]at this;exact this⟩
 have hcf:∀cf,(cf=cst p.c.length p.r.length p.r.length∨cf=cc p 1)→(∀k,(cf k).natAbs ≤10)∧cf (nE p)=0:=fun cf hc=>by
  rcases hc with e|e<;>subst e
  ·exact⟨fun k=>cst_10,by unfold cst;rw [if_neg (by unfold nE;omega)]⟩
  ·exact⟨fun k=>cc_10 hs,cc_hi (by unfold nE;omega)⟩
 have hS:∀cf,(cf=cst p.c.length p.r.length p.r.length∨cf=cc p 1)→∀g (s:TS),Inv p.r.length (nE p+1) (up2 f p.r.length g) (uC p) cf s.1 (bN s) s.2.2→(∀i<p.r.length,0≤s.2.1 i∧s.2.1 i<nE p)→TBd p.r.length (nE p) s:=fun cf hc g s I hb=>
  tbd_of hs.m4 hs.n4 I hb (hT g).1 (hT g).2.2 (hT g).2.1 (hcf cf hc).1 (hcf cf hc).2
 refine⟨h1,⟨fun a _=>b62_of (by have:=cc_10 hs (k:=a);omega),prF_small hs.m4 (fun k=>cst_10) (by decide) (fun i hi k hk=>?_),fun cf hc g s I hb c hcE=>(hS cf hc g s I hb).f hcE,fun cf hc g s I hb=>?_⟩⟩
 ·obtain⟨t1,t2,_⟩:=t0_bd hv hs h hi
  by_cases e:k=nE p
  ·rw [e];omega
  ·have:=t1 k (by omega);omega
 ·have B:=hS cf hc g s I hb
  have hd:=B.d
  refine⟨fun i hi=>B.du rfl (.inr rfl) hi (h.ht i hi) (h3 i hi),fun i hi=>B.du rfl (.inl rfl) hi (h.ht i hi) (h3 i hi),prF_small hs.m4 (fun k=>cc_10 hs) (by omega) (fun i hi k hk=>?_),fun i hi=>fnew_fit (by omega) (by have:=B.r i hi;omega) (by omega),fun c hc i hi=>fnew_fit (by omega) (by have:=B.e i hi c hc;omega) (by omega),?_,?_,?_⟩
  ·by_cases e:k=nE p
   ·rw [e];have:=B.r i hi;omega
   ·have:=B.e i hi k (by omega);omega
  ·rw [Int.mul_one];exact b62_of (by omega)
  ·omega
  ·rw [Int.mul_one];exact fnew_fit (by omega) (by have:=B.v;omega) (by omega)
end
end Go.Proofs.YtbcjojomkibgeaaGreat
