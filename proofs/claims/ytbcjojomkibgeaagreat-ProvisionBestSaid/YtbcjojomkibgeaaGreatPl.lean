/- Lemmas of this seat. Conditions: as stated. -/
import Derived.IntWalk
set_option linter.unusedVariables false
set_option linter.unusedSimpArgs false
section
namespace Go.Cv
abbrev INF:Int:=4611686018427387904
def vals (F:Nat→Int) (n:Nat):List Int:=(List.range n).map F
theorem vals_len (F:Nat→Int) (n:Nat):(vals F n).length =n:=by simp [vals]
def ValidP (vs:List Int) (p i:Int):Prop:=
 1≤vs.length∧vs.length≤400∧1≤p∧p≤120∧p≤vs.length∧0≤i∧i≤1073741824∧
 (∀j<vs.length,vs.getD j 0=4611686018427387904∨0≤vs.getD j 0∧vs.getD j 0≤1073741824)∧
 (∀j,j+1<vs.length→vs.getD j 0≤vs.getD (j+1) 0)∧
 (vs.getD (vs.length-1) 0=4611686018427387904→p=1∧i=0)∧
 (vs.getD (vs.length-1) 0≠4611686018427387904→vs.getD (vs.length-p.toNat) 0+i≥vs.getD (vs.length-1) 0)
end Go.Cv
end
section
namespace Go.Fq
def MT:Nat:=1073741824
def Sm (r:Rat):Prop:=r.num.natAbs≤MT∧r.den≤MT
instance (r:Rat):Decidable (Sm r):=inferInstanceAs (Decidable (_∧_))
def VF (a:Int×Int):Prop:=1≤a.2∧a.2≤1073741824∧-1073741824≤a.1∧a.1≤1073741824∧Nat.gcd a.1.natAbs a.2.natAbs=1
instance (a:Int×Int):Decidable (VF a):=inferInstanceAs (Decidable (_∧_∧_∧_∧_))
def val (a:Int×Int):Rat:=Rat.divInt a.1 a.2
def enc (r:Rat):Int×Int:=(r.num,r.den)
def fenc (r:Rat):Int×Int×Int:=if Sm r then(r.num,r.den,0)else(0,0,3)
def fnew (n d:Int):Int×Int×Int:=if d=0 then(0,0,2)else fenc (Rat.divInt n d)
theorem VF.num {a} (h:VF a):(val a).num =a.1:=by
 obtain⟨h1,h2,h3,h4,h5⟩:=h
 unfold val
 rw [Rat.num_divInt,Int.gcd,Nat.gcd_comm,h5]
 have:a.2.sign=1:=Int.sign_eq_one_of_pos (by omega)
 simp [this]
theorem VF.den {a} (h:VF a):((val a).den :Int)=a.2:=by
 obtain⟨h1,h2,h3,h4,h5⟩:=h
 unfold val
 rw [Rat.den_divInt,Int.gcd,Nat.gcd_comm,h5,if_neg (by omega)]
 simp;omega
theorem VF.sm {a} (h:VF a):Sm (val a):=by
 have h1:=h.num;have h2:=h.den
 obtain⟨k1,k2,k3,k4,k5⟩:=h
 unfold Sm MT;omega
theorem VF.enc {a} (h:VF a):enc (val a)=a:=by
 unfold Fq.enc;rw [h.num,h.den]
theorem vf_enc {r:Rat} (h:Sm r):VF (enc r):=by
 unfold Sm MT at h
 have:=r.den_pos
 have hr:=r.reduced
 refine⟨?_,?_,?_,?_,?_⟩<;>simp only [enc]<;>try omega
 simpa [Nat.Coprime]using hr
theorem val_enc {r:Rat}:val (enc r)=r:=by
 unfold val enc;exact Rat.num_divInt_den r
theorem vf_zero:VF (0,1):=by decide
theorem val_zero:val (0,1)=0:=by decide+kernel
theorem VF.inj {a b} (h:VF a) (k:VF b) (e:val a=val b):a=b:=by rw [←h.enc,←k.enc,e]
theorem VF.cmp {a b} (h:VF a) (k:VF b):a.1*b.2<b.1*a.2↔val a<val b:=by
 rw [Rat.lt_iff,h.num,h.den,k.num,k.den]
theorem VF.add {a b} (h:VF a) (k:VF b):fnew (a.1*b.2+b.1*a.2) (a.2*b.2)=fenc (val a+val b):=by
 have ha:=h.1;have hb:=k.1
 have:a.2*b.2≠0:=Int.mul_ne_zero (by omega) (by omega)
 unfold fnew val
 rw [if_neg this,Rat.divInt_add_divInt _ _ (by omega) (by omega)]
theorem VF.mul {a b} (h:VF a) (k:VF b):fnew (a.1*b.1) (a.2*b.2)=fenc (val a*val b):=by
 have ha:=h.1;have hb:=k.1
 have:a.2*b.2≠0:=Int.mul_ne_zero (by omega) (by omega)
 unfold fnew val
 rw [if_neg this,Rat.divInt_mul_divInt]
theorem fenc_ok {r:Rat} {x y:Int} (h:fenc r=(x,y,0)):Sm r∧(x,y)=enc r:=by
 unfold fenc at h
 split at h
 ·rename_i hs;simp only [Prod.mk.injEq,and_true]at h;exact⟨hs,by simp [enc,h.1,h.2]⟩
 ·simp at h
theorem divInt_terms (n d:Int) (hd:d≠0):
  (Rat.divInt n d).den =d.natAbs/Nat.gcd n.natAbs d.natAbs∧
  (Rat.divInt n d).num =if(n<0↔d<0)then((n.natAbs/Nat.gcd n.natAbs d.natAbs:Nat):Int)else-((n.natAbs/Nat.gcd n.natAbs d.natAbs:Nat):Int):=by
 have hg:(Nat.gcd n.natAbs d.natAbs:Int)∣(n.natAbs:Int):=Int.natCast_dvd_natCast.2 (Nat.gcd_dvd_left _ _)
 constructor
 ·rw [Rat.den_divInt,if_neg hd,Int.gcd,Nat.gcd_comm]
 ·rw [Rat.num_divInt,Int.gcd,Nat.gcd_comm]
  have hn:n=(n.natAbs:Int)∨n= -(n.natAbs:Int):=by omega
  rw [Int.natCast_ediv]
  rcases Int.lt_trichotomy d 0 with h|h|h
  ·rw [Int.sign_eq_neg_one_of_neg h,Int.neg_mul,Int.one_mul]
   split
   ·rename_i hh
    have:n<0:=hh.2 h
    congr 1;omega
   ·rename_i hh
    have:¬n<0:=fun x=>hh ⟨fun _=>h,fun _=>x⟩
    rw [Int.neg_ediv_of_dvd (by rw [show n=(n.natAbs:Int)by omega];exact hg)]
    congr 2;omega
  ·exact absurd h hd
  ·rw [Int.sign_eq_one_of_pos h,Int.one_mul]
   split
   ·rename_i hh
    have:¬n<0:=fun x=>by have:=hh.1 x;omega
    congr 1;omega
   ·rename_i hh
    have:n<0:=Classical.byContradiction fun x=>hh ⟨fun y=>absurd y x,fun y=>by omega⟩
    conv=>lhs;rw [show n= -(n.natAbs:Int)by omega]
    rw [Int.neg_ediv_of_dvd (by simpa using hg)];simp
theorem sm_of {r:Rat} {n d:Nat} (hn:r.num.natAbs=n) (hd:r.den=d):Sm r↔n≤1073741824∧d≤1073741824:=by
 unfold Sm MT;rw [hn,hd]
theorem fnew_eq (n d : Int) (hd : d ≠ 0) : fnew n d =
    (if 1073741824 < n.natAbs / Nat.gcd n.natAbs d.natAbs ∨ 1073741824 < d.natAbs / Nat.gcd n.natAbs d.natAbs then (0, 0, 3)
     else if (n < 0 ↔ d < 0) then (((n.natAbs / Nat.gcd n.natAbs d.natAbs : Nat) : Int), ((d.natAbs / Nat.gcd n.natAbs d.natAbs : Nat) : Int), 0)
     else (-((n.natAbs / Nat.gcd n.natAbs d.natAbs : Nat) : Int), ((d.natAbs / Nat.gcd n.natAbs d.natAbs : Nat) : Int), 0)) := by
  obtain ⟨h1, h2⟩ := divInt_terms n d hd
  generalize n.natAbs / Nat.gcd n.natAbs d.natAbs = x at *
  generalize d.natAbs / Nat.gcd n.natAbs d.natAbs = y at *
  have h3 : (Rat.divInt n d).num.natAbs = x := by rw [h2]; split <;> simp
  have hs := sm_of h3 h1
  unfold fnew fenc
  rw [if_neg hd]
  by_cases hb : 1073741824 < x ∨ 1073741824 < y
  · rw [if_pos hb, if_neg (by rw [hs]; omega)]
  · rw [if_neg hb, if_pos (by rw [hs]; omega), h1, h2]
    split <;> rfl
theorem tdiv_nat (n:Int) (g:Nat):n.tdiv g=if n<0 then-((n.natAbs/g:Nat):Int)else((n.natAbs/g:Nat):Int):=by
 split
 ·have e:n= -(n.natAbs:Int):=by omega
  conv=>lhs;rw [e]
  rw [Int.neg_tdiv,Int.tdiv_eq_ediv_of_nonneg (by omega)];rfl
 ·have e:n=(n.natAbs:Int):=by omega
  conv=>lhs;rw [e]
  rw [Int.tdiv_eq_ediv_of_nonneg (by omega)];rfl
theorem new_pos {n d:Int} (hd:0<d):n.tdiv (Nat.gcd n.natAbs d.natAbs)=(Rat.divInt n d).num ∧d.tdiv (Nat.gcd n.natAbs d.natAbs)=(Rat.divInt n d).den :=by
 obtain⟨h1,h2⟩:=divInt_terms n d (by omega)
 rw [h1,h2,tdiv_nat,tdiv_nat,if_neg (show¬d<0 by omega)]
 refine⟨?_,rfl⟩
 by_cases h:n<0
 ·rw [if_pos h,if_neg (by omega)]
 ·rw [if_neg h,if_pos (by omega)]
theorem new_neg {n d:Int} (hd:d<0):(0-n).tdiv (Nat.gcd n.natAbs d.natAbs)=(Rat.divInt n d).num ∧(0-d).tdiv (Nat.gcd n.natAbs d.natAbs)=(Rat.divInt n d).den :=by
 obtain⟨h1,h2⟩:=divInt_terms n d (by omega)
 have e1:(0-n).natAbs =n.natAbs:=by omega
 have e2:(0-d).natAbs =d.natAbs:=by omega
 rw [h1,h2,tdiv_nat,tdiv_nat,e1,e2,if_neg (show¬0-d<0 by omega)]
 refine⟨?_,rfl⟩
 by_cases h:n<0
 ·rw [if_neg (by omega),if_pos (by omega)]
 ·by_cases h0:n=0
  ·subst h0;simp
  ·rw [if_pos (by omega),if_neg (by omega)]
theorem vf_enc_iff {r:Rat}:VF (r.num,(r.den:Int))↔Sm r:=by
 constructor
 ·intro h
  have:=h.sm
  have e:val (r.num,(r.den:Int))=r:=val_enc
  rwa [e]at this
 ·exact vf_enc
end Go.Fq
end
section
namespace Go.Fq
def sm:Nat→(Nat→Rat)→Rat
 |0,_=>0
 |n+1,f=>sm n f+f n
theorem sm_le {f g:Nat→Rat}:∀{n:Nat},(∀i<n,f i≤g i)→sm n f≤sm n g
 |0,_=>by simp [sm]
 |n+1,h=>by
  have h1:=sm_le (f:=f) (g:=g) (n:=n) (fun i hi=>h i (by omega))
  have h2:=h n (by omega)
  simp only [sm];grind
theorem sm_congr {f g:Nat→Rat}:∀{n:Nat},(∀i<n,f i=g i)→sm n f=sm n g
 |0,_=>by simp [sm]
 |n+1,h=>by simp only [sm];rw [sm_congr (n:=n) (fun i hi=>h i (by omega)),h n (by omega)]
theorem sm_add {f g:Nat→Rat}:∀{n:Nat},sm n (fun i=>f i+g i)=sm n f+sm n g
 |0=>by simp only [sm];exact(Rat.add_zero 0).symm
 |n+1=>by simp only [sm];rw [sm_add];grind
theorem sm_mul {f:Nat→Rat} {c:Rat}:∀{n:Nat},sm n (fun i=>f i*c)=sm n f*c
 |0=>by simp [sm]
 |n+1=>by simp only [sm];rw [sm_mul];grind
theorem sm_mul' {f:Nat→Rat} {c:Rat}:∀{n:Nat},sm n (fun i=>c*f i)=c*sm n f
 |0=>by simp [sm]
 |n+1=>by simp only [sm];rw [sm_mul'];grind
theorem sm_zero {n:Nat}:sm n (fun _=>0)=0:=by
 induction n with
 |zero=>rfl
 |succ n ih=>simp only [sm];rw [ih];grind
theorem sm_comm {f:Nat→Nat→Rat} {m:Nat}:∀{n:Nat},sm n (fun i=>sm m (fun j=>f i j))=sm m (fun j=>sm n (fun i=>f i j))
 |0=>by simp only [sm];exact sm_zero.symm
 |n+1=>by
  simp only [sm];rw [sm_comm (n:=n),←sm_add]
theorem weak {n m:Nat} {a:Nat→Nat→Rat} {b c x y:Nat→Rat} (hx:∀j<n,0≤x j) (hc:∀j<n,sm m (fun i=>a i j*y i)≤c j)
  (hb:∀i<m,b i*y i≤sm n (fun j=>a i j*x j)*y i):sm m (fun i=>b i*y i)≤sm n (fun j=>c j*x j):=by
 have h1:sm m (fun i=>b i*y i)≤sm m (fun i=>sm n (fun j=>a i j*x j)*y i):=sm_le hb
 have h2:sm m (fun i=>sm n (fun j=>a i j*x j)*y i)=sm n (fun j=>sm m (fun i=>a i j*y i)*x j):=by
  have e1:sm m (fun i=>sm n (fun j=>a i j*x j)*y i)=sm m (fun i=>sm n (fun j=>a i j*x j*y i)):=sm_congr (fun i _=>sm_mul.symm)
  have e2:sm n (fun j=>sm m (fun i=>a i j*y i)*x j)=sm n (fun j=>sm m (fun i=>a i j*x j*y i)):=
   sm_congr (fun j _=>by rw [←sm_mul];exact sm_congr (fun i _=>by grind))
  rw [e1,e2,sm_comm]
 have h3:sm n (fun j=>sm m (fun i=>a i j*y i)*x j)≤sm n (fun j=>c j*x j):=
  sm_le (fun j hj=>Rat.mul_le_mul_of_nonneg_right (hc j hj) (hx j hj))
 grind
end Go.Fq
end
section
namespace Go.Fq
abbrev F:=Int×Int
abbrev R:=Int×Int×Int
def fmul (a b:F):R:=if VF a∧VF b then fenc (val a*val b)else(0,0,2)
def fadd (a b:F):R:=if VF a∧VF b then fenc (val a+val b)else(0,0,2)
def fcmp (a b:F):Int:=if VF a∧VF b then(if val a<val b then-1 else if val b<val a then 1 else 0)else 0
def pgo:List F→List F→F→R
 |x::xs,y::ys,s=>
  if(fmul x y).2.2 =0 then
   if(fadd s ((fmul x y).1,(fmul x y).2.1)).2.2 =0 then pgo xs ys ((fadd s ((fmul x y).1,(fmul x y).2.1)).1,(fadd s ((fmul x y).1,(fmul x y).2.1)).2.1)
   else(0,0,3)
  else(0,0,3)
 |_,_,s=>(s.1,s.2,0)
def prod (a b:List F):R:=if a.length=b.length then pgo a b (0,1)else(0,0,2)
def at' (l:List F) (i:Nat):Rat:=val (l.getD i (0,1))
theorem fmul_ok {a b:F} {x y:Int} (h:fmul a b=(x,y,0)):VF a∧VF b∧VF (x,y)∧val (x,y)=val a*val b:=by
 unfold fmul at h
 split at h
 ·rename_i hv
  obtain⟨hs,e⟩:=fenc_ok h
  exact⟨hv.1,hv.2,by rw [e];exact vf_enc hs,by rw [e];exact val_enc⟩
 ·simp at h
theorem fadd_ok {a b:F} {x y:Int} (h:fadd a b=(x,y,0)):VF a∧VF b∧VF (x,y)∧val (x,y)=val a+val b:=by
 unfold fadd at h
 split at h
 ·rename_i hv
  obtain⟨hs,e⟩:=fenc_ok h
  exact⟨hv.1,hv.2,by rw [e];exact vf_enc hs,by rw [e];exact val_enc⟩
 ·simp at h
theorem sm_succ' {f:Nat→Rat}:∀{n:Nat},sm (n+1) f=f 0+sm n (fun i=>f (i+1))
 |0=>by simp only [sm];grind
 |n+1=>by
  have:=sm_succ' (f:=f) (n:=n)
  simp only [sm]at this⊢;rw [this];grind
theorem pgo_ok:∀{a b:List F} {s:F} {x y:Int},a.length=b.length→VF s→pgo a b s=(x,y,0)→
  (∀f∈a,VF f)∧(∀f∈b,VF f)∧VF (x,y)∧val (x,y)=val s+sm a.length (fun i=>at' a i*at' b i)
 |[],[],s,x,y,_,hs,h=>by
  simp only [pgo,Prod.mk.injEq,and_true]at h
  obtain⟨rfl,rfl⟩:=h
  refine⟨by simp,by simp,hs,?_⟩
  simp only [List.length_nil,sm];grind
 |u::us,v::vs,s,x,y,hl,hs,h=>by
  simp only [pgo]at h
  split at h
  ·rename_i h1
   split at h
   ·rename_i h2
    obtain⟨k1,k2,k3,k4⟩:=fmul_ok (a:=u) (b:=v) (x:=(fmul u v).1) (y:=(fmul u v).2.1) (by rw [←h1])
    obtain⟨k5,k6,k7,k8⟩:=fadd_ok (a:=s) (b:=((fmul u v).1,(fmul u v).2.1)) (by rw [←h2])
    obtain⟨k9,k10,k11,k12⟩:=pgo_ok (by simpa using hl) k7 h
    refine⟨List.forall_mem_cons.2 ⟨k1,k9⟩,List.forall_mem_cons.2 ⟨k2,k10⟩,k11,?_⟩
    rw [k12,k8,k4,List.length_cons,sm_succ']
    simp only [at',List.getD_cons_zero,List.getD_cons_succ]
    grind
   ·simp at h
  ·simp at h
theorem prod_ok {a b:List F} {x y:Int} (h:prod a b=(x,y,0)):
  a.length=b.length∧(∀f∈a,VF f)∧(∀f∈b,VF f)∧VF (x,y)∧val (x,y)=sm a.length (fun i=>at' a i*at' b i):=by
 unfold prod at h
 split at h
 ·rename_i hl
  obtain⟨h1,h2,h3,h4⟩:=pgo_ok hl vf_zero h
  refine⟨hl,h1,h2,h3,?_⟩
  rw [h4,val_zero];grind
 ·simp at h
abbrev Rw:=List F×Int×F
structure Pr where
 c:List F
 r:List Rw
def VP (p:Pr):Prop:=1≤p.c.length∧p.c.length≤6∧p.r.length≤24∧(∀f∈p.c,VF f)∧
 ∀w∈p.r,w.1.length=p.c.length∧1≤w.2.1∧w.2.1≤3∧(∀f∈w.1,VF f)∧VF w.2.2
def keeps (w:Rw) (k:Int):Prop:=(w.2.1=1∧k≤0)∨(w.2.1=2∧0≤k)∨(w.2.1=3∧k=0)
def rowOK (w:Rw) (x:List F):Prop:=(prod w.1 x).2.2 =0∧keeps w (fcmp ((prod w.1 x).1,(prod w.1 x).2.1) w.2.2)
def Feas (p:Pr) (x:List F):Prop:=VP p∧x.length=p.c.length∧(∀f∈x,VF f)∧(∀f∈x,0≤f.1)∧∀w∈p.r,rowOK w x
def Sgn (p:Pr) (y:List F):Prop:=VP p∧y.length=p.r.length∧∀(i:Nat) (w:Rw) (f:F),p.r[i]? =some w→y[i]? =some f→VF f∧¬(w.2.1=1∧0<f.1)∧¬(w.2.1=2∧f.1<0)
def col (p:Pr) (j:Nat):List F:=p.r.map fun w=>w.1.getD j (0,1)
def bds (p:Pr):List F:=p.r.map fun w=>w.2.2
def Blw (p:Pr) (y:List F) (l:Nat→F):Prop:=∀j<p.c.length,(prod (col p j) y).2.2 =0∧fcmp ((prod (col p j) y).1,(prod (col p j) y).2.1) (l j)≤0
noncomputable def bound (p:Pr) (y:List F):R:=
 open Classical in if¬VP p then(0,0,2)else if Sgn p y∧Blw p y (fun j=>p.c.getD j (0,1))then prod (bds p) y else(0,0,8)
def Opt (p:Pr) (x y:List F):Prop:=Feas p x∧(bound p y).2.2 =0∧prod p.c x=bound p y
def Inf (p:Pr) (y:List F):Prop:=Sgn p y∧Blw p y (fun _=>(0,1))∧(prod (bds p) y).2.2 =0∧0<(prod (bds p) y).1
def Unb (p:Pr) (x ray:List F):Prop:=Feas p x∧Feas ⟨p.c,p.r.map fun w=>(w.1,w.2.1,(0,1))⟩ ray∧(prod p.c ray).2.2 =0∧(prod p.c ray).1 <0
end Go.Fq
end
section
namespace Go.Fq
theorem fcmp_lt {a b:F} (h:VF a) (k:VF b):fcmp a b<0↔val a<val b:=by
 unfold fcmp;rw [if_pos ⟨h,k⟩]
 split
 ·simp [*]
 ·split<;>simp [*]
theorem fcmp_gt {a b:F} (h:VF a) (k:VF b):0<fcmp a b↔val b<val a:=by
 unfold fcmp;rw [if_pos ⟨h,k⟩]
 split
 ·rename_i g
  have:¬val b<val a:=by grind
  simp [this]
 ·split<;>simp [*]
theorem fcmp_le {a b:F} (h:VF a) (k:VF b):fcmp a b≤0↔val a≤val b:=by
 have:=fcmp_gt h k
 constructor
 ·intro g;have:¬val b<val a:=fun x=>by have:=this.2 x;omega
  grind
 ·intro g;have:¬0<fcmp a b:=fun x=>by have:=this.1 x;grind
  omega
theorem fcmp_ge {a b:F} (h:VF a) (k:VF b):0≤fcmp a b↔val b≤val a:=by
 have:=fcmp_lt h k
 constructor
 ·intro g;have:¬val a<val b:=fun x=>by have:=this.2 x;omega
  grind
 ·intro g;have:¬fcmp a b<0:=fun x=>by have:=this.1 x;grind
  omega
theorem fcmp_eq {a b:F} (h:VF a) (k:VF b):fcmp a b=0↔val a=val b:=by
 have h1:=fcmp_le h k
 have h2:=fcmp_ge h k
 constructor
 ·intro g
  have:=h1.1 (by omega);have:=h2.1 (by omega);grind
 ·intro g
  have:=h1.2 (by grind);have:=h2.2 (by grind);omega
theorem VF.nonneg {f:F} (h:VF f):0≤f.1↔0≤val f:=by rw [←Rat.num_nonneg,h.num]
theorem VF.pos {f:F} (h:VF f):0<f.1↔0<val f:=by rw [Rat.lt_iff,h.num];simp
theorem VF.neg {f:F} (h:VF f):f.1<0↔val f<0:=by
 have:=h.nonneg
 constructor
 ·intro g;have:¬0≤val f:=fun x=>by have:=this.2 x;omega
  grind
 ·intro g;have:¬0≤f.1:=fun x=>by have:=this.1 x;grind
  omega
def A (p:Pr) (i j:Nat):Rat:=at' (p.r.getD i ([],0,(0,1))).1 j
def B (p:Pr) (i:Nat):Rat:=at' (bds p) i
theorem at_col {p:Pr} {i j:Nat} (hi:i<p.r.length):at' (col p j) i=A p i j:=by
 unfold at' A col at'
 rw [List.getD_eq_getElem?_getD,List.getD_eq_getElem?_getD (l:=p.r)]
 simp [hi]
theorem at_bds {p:Pr} {i:Nat} (hi:i<p.r.length):at' (bds p) i=val (p.r[i]).2.2 :=by
 unfold at' bds
 rw [List.getD_eq_getElem?_getD];simp [hi]
theorem at_row {p:Pr} {i j:Nat} (hi:i<p.r.length):A p i j=at' (p.r[i]).1 j:=by
 unfold A
 rw [List.getD_eq_getElem?_getD];simp [hi]
theorem at_get {l:List F} {i:Nat} (hi:i<l.length):at' l i=val l[i]:=by
 unfold at';rw [List.getD_eq_getElem?_getD];simp [hi]
theorem bound_ok {p:Pr} {y:List F} (h:(bound p y).2.2 =0):VP p∧Sgn p y∧Blw p y (fun j=>p.c.getD j (0,1))∧bound p y=prod (bds p) y:=by
 unfold bound at h⊢
 split at h
 ·simp at h
 ·rename_i hv
  rw [if_neg hv]
  split at h
  ·rename_i hs
   rw [if_pos hs];exact⟨Classical.not_not.1 hv,hs.1,hs.2,rfl⟩
  ·simp at h
theorem prod_ok' {a b:List F} (h:(prod a b).2.2 =0):
  a.length=b.length∧(∀f∈a,VF f)∧(∀f∈b,VF f)∧VF ((prod a b).1,(prod a b).2.1)∧val ((prod a b).1,(prod a b).2.1)=sm a.length (fun i=>at' a i*at' b i):=
 prod_ok (x:=(prod a b).1) (y:=(prod a b).2.1) (by rw [←h])
theorem feas_x {p:Pr} {x:List F} (hf:Feas p x) {j:Nat} (hj:j<p.c.length):0≤at' x j:=by
 obtain⟨_,hxl,hxv,hx0,_⟩:=hf
 have h:j<x.length:=by omega
 rw [at_get h]
 exact(hxv _ (List.getElem_mem h)).nonneg.1 (hx0 _ (List.getElem_mem h))
theorem bds_len {p:Pr}:(bds p).length =p.r.length:=by simp [bds]
end Go.Fq
end
section
namespace Go.Dt
def sI:Nat→(Nat→Int)→Int
 |0,_=>0
 |n+1,f=>sI n f+f n
theorem sI_congr {f g:Nat→Int}:∀{n:Nat},(∀i<n,f i=g i)→sI n f=sI n g
 |0,_=>rfl
 |n+1,h=>by simp only [sI];rw [sI_congr (fun i hi=>h i (by omega)),h n (by omega)]
theorem sI_zero {f:Nat→Int} {n:Nat} (h:∀i<n,f i=0):sI n f=0:=by
 induction n with
 |zero=>rfl
 |succ n ih=>simp only [sI];rw [ih (fun i hi=>h i (by omega)),h n (by omega)];rfl
theorem sI_add {f g:Nat→Int}:∀{n:Nat},sI n (fun i=>f i+g i)=sI n f+sI n g
 |0=>rfl
 |n+1=>by simp only [sI];rw [sI_add];omega
theorem sI_mul {f:Nat→Int} {c:Int}:∀{n:Nat},sI n (fun i=>c*f i)=c*sI n f
 |0=>by simp [sI]
 |n+1=>by simp only [sI];rw [sI_mul,Int.mul_add]
theorem sI_one {f:Nat→Int} {n i:Nat} (hi:i<n) (h:∀j<n,j≠i→f j=0):sI n f=f i:=by
 induction n with
 |zero=>omega
 |succ n ih=>
  simp only [sI]
  by_cases e:i=n
  ·subst e;rw [sI_zero (fun j hj=>h j (by omega) (by omega))];omega
  ·rw [ih (by omega) (fun j hj=>h j (by omega)),h n (by omega) (by omega)];omega
theorem sI_two {f:Nat→Int} {n i k:Nat} (hi:i<k) (hk:k<n) (h:∀j<n,j≠i→j≠k→f j=0):sI n f=f i+f k:=by
 induction n with
 |zero=>omega
 |succ n ih=>
  simp only [sI]
  by_cases e:k=n
  ·subst e;rw [sI_one hi (fun j hj hn=>h j (by omega) hn (by omega))]
  ·rw [ih (by omega) (fun j hj=>h j (by omega)),h n (by omega) (by omega) (by omega)];omega
abbrev V:=Nat→Int
def skip (j i:Nat):Nat:=if i<j then i else i+1
def sgn (j:Nat):Int:=if j%2=0 then 1 else-1
def D:Nat→(Nat→V)→Int
 |0,_=>1
 |m+1,v=>sI (m+1) fun j=>sgn j*v j m*D m (fun i=>v (skip j i))
def sv (v:Nat→V) (i:Nat) (x:V) (a:Nat):V:=if a=i then x else v a
theorem sv_same {v:Nat→V} {i:Nat} {x:V}:sv v i x i=x:=by simp [sv]
theorem sv_ne {v:Nat→V} {i a:Nat} {x:V} (h:a≠i):sv v i x a=v a:=by simp [sv,h]
theorem sv_self {v:Nat→V} {i:Nat}:sv v i (v i)=v:=by funext a;unfold sv;split<;>simp_all
theorem sv_comm {v:Nat→V} {i j:Nat} {x y:V} (h:i≠j):sv (sv v i x) j y=sv (sv v j y) i x:=by
 funext a;unfold sv;by_cases h1:a=j<;>by_cases h2:a=i<;>simp_all
theorem D_congr:∀{m:Nat} {v w:Nat→V},(∀i<m,∀l<m,v i l=w i l)→D m v=D m w
 |0,_,_,_=>rfl
 |m+1,v,w,h=>by
  simp only [D]
  apply sI_congr;intro j hj
  rw [h j hj m (by omega),D_congr (m:=m) (v:=fun i=>v (skip j i)) (w:=fun i=>w (skip j i)) (fun i hi l hl=>h _ (by unfold skip;split<;>omega) l (by omega))]
theorem skip_sv_eq {v:Nat→V} {i:Nat} {x:V}:(fun a=>sv v i x (skip i a))=fun a=>v (skip i a):=by
 funext a;rw [sv_ne];unfold skip;split<;>omega
theorem skip_sv_ne {v:Nat→V} {i j:Nat} {x:V} (h:i≠j):(fun a=>sv v i x (skip j a))=sv (fun a=>v (skip j a)) (if i<j then i else i-1) x:=by
 funext a
 unfold sv
 have:skip j a=i↔a=if i<j then i else i-1:=by unfold skip;split<;>split<;>omega
 by_cases e:skip j a=i
 ·rw [if_pos e,if_pos (this.1 e)]
 ·rw [if_neg e,if_neg (fun h=>e (this.2 h))]
theorem D_lin {a b:Int} {x y:V}:∀{m i:Nat} {v:Nat→V},i<m→D m (sv v i (fun l=>a*x l+b*y l))=a*D m (sv v i x)+b*D m (sv v i y)
 |0,i,v,h=>by omega
 |m+1,i,v,h=>by
  simp only [D]
  rw [←sI_mul,←sI_mul,←sI_add]
  apply sI_congr;intro j hj
  by_cases e:i=j
  ·subst e
   rw [skip_sv_eq,skip_sv_eq,skip_sv_eq,sv_same,sv_same,sv_same];grind
  ·rw [skip_sv_ne e,skip_sv_ne e,skip_sv_ne e,sv_ne (Ne.symm e),sv_ne (Ne.symm e),sv_ne (Ne.symm e),D_lin (m:=m) (by split<;>omega)];grind
theorem D_adj:∀{m i:Nat} {v:Nat→V},i+1<m→v i=v (i+1)→D m v=0
 |0,i,v,h,_=>by omega
 |m+1,i,v,h,e=>by
  simp only [D]
  rw [sI_two (i:=i) (k:=i+1) (by omega) h]
  ·have h1:(fun a=>v (skip i a))=fun a=>v (skip (i+1) a):=by
    funext a
    unfold skip
    by_cases h1:a<i
    ·rw [if_pos h1,if_pos (by omega)]
    ·by_cases h2:a=i
     ·subst h2;rw [if_neg h1,if_pos (by omega),e]
     ·rw [if_neg h1,if_neg (by omega)]
   have h2:sgn (i+1)= -sgn i:=by unfold sgn;split<;>split<;>omega
   rw [h1,h2,e];grind
  ·intro j hj h1 h2
   have:D m (fun a=>v (skip j a))=0:=by
    by_cases h3:j<i
    ·refine D_adj (i:=i-1) (by omega) ?_
     have e1:skip j (i-1)=i:=by unfold skip;split<;>omega
     have e2:skip j (i-1+1)=i+1:=by unfold skip;split<;>omega
     rw [e1,e2];exact e
    ·refine D_adj (i:=i) (by omega) ?_
     have e1:skip j i=i:=by unfold skip;split<;>omega
     have e2:skip j (i+1)=i+1:=by unfold skip;split<;>omega
     rw [e1,e2];exact e
   rw [this,Int.mul_zero]
theorem D_add {m i:Nat} {v:Nat→V} {x y:V} (h:i<m):D m (sv v i (fun l=>x l+y l))=D m (sv v i x)+D m (sv v i y):=by
 have:=D_lin (a:=1) (b:=1) (x:=x) (y:=y) (v:=v) h
 simp only [Int.one_mul]at this;exact this
theorem D_swap_of {m i k:Nat} {v:Nat→V} {x y:V} (hi:i<m) (hk:k<m) (hn:i≠k) (h:∀z:V,D m (sv (sv v i z) k z)=0):D m (sv (sv v i x) k y)= -D m (sv (sv v i y) k x):=by
 have e:=h (fun l=>x l+y l)
 rw [D_add hk,sv_comm hn,D_add hi,sv_comm hn (y:=y),D_add hi,←sv_comm hn,←sv_comm hn,←sv_comm hn,←sv_comm hn,h x,h y]at e
 omega
theorem D_alt {m:Nat}:∀{n i k:Nat} {v:Nat→V},k=i+1+n→k<m→v i=v k→D m v=0
 |0,i,k,v,hk,hm,e=>by subst hk;exact D_adj hm e
 |n+1,i,k,v,hk,hm,e=>by
  have hs:D m v= -D m (sv (sv v (k-1) (v k)) k (v (k-1))):=by
   have:=D_swap_of (m:=m) (i:=k-1) (k:=k) (v:=v) (x:=v (k-1)) (y:=v k) (by omega) hm (by omega) (fun z=>D_adj (i:=k-1) (by omega) (by
    rw [show k-1+1=k by omega,sv_same,sv_ne (by omega),sv_same]))
   rw [sv_self,sv_self]at this
   exact this
  rw [hs,D_alt (n:=n) (i:=i) (k:=k-1) (by omega) (by omega) (by rw [sv_ne (by omega),sv_ne (by omega),sv_ne (by omega),sv_same];exact e)];rfl
theorem D_eq {m i k:Nat} {v:Nat→V} (hi:i<m) (hk:k<m) (hn:i≠k) (e:v i=v k):D m v=0:=by
 rcases Nat.lt_or_gt_of_ne hn with h|h
 ·exact D_alt (n:=k-i-1) (i:=i) (k:=k) (by omega) hk e
 ·exact D_alt (n:=i-k-1) (i:=k) (k:=i) (by omega) hi e.symm
theorem D_swap {m i k:Nat} {v:Nat→V} {x y:V} (hi:i<m) (hk:k<m) (hn:i≠k):D m (sv (sv v i x) k y)= -D m (sv (sv v i y) k x):=
 D_swap_of hi hk hn fun z=>D_eq hi hk hn (by rw [sv_same,sv_ne hn,sv_same])
theorem D_zero {m i:Nat} {v:Nat→V} (hi:i<m):D m (sv v i (fun _=>0))=0:=by
 have:=D_lin (a:=0) (b:=0) (x:=fun _=>0) (y:=fun _=>0) (v:=v) hi
 simpa using this
theorem D_sum {m i:Nat} {v:Nat→V} {t:Nat→Int} {x:Nat→V} (hi:i<m):∀{n:Nat},D m (sv v i (fun l=>sI n (fun j=>t j*x j l)))=sI n (fun j=>t j*D m (sv v i (x j)))
 |0=>by simp only [sI];exact D_zero hi
 |n+1=>by
  simp only [sI]
  rw [D_add hi,D_sum hi]
  have:=D_lin (a:=t n) (b:=0) (x:=x n) (y:=fun _=>0) (v:=v) hi
  simp only [Int.zero_mul,Int.add_zero]at this
  rw [this]
theorem D_scale {m i:Nat} {v:Nat→V} {c:Int} {x:V} (hi:i<m):D m (sv v i (fun l=>c*x l))=c*D m (sv v i x):=by
 have:=D_lin (a:=c) (b:=0) (x:=x) (y:=fun _=>0) (v:=v) hi
 simp only [Int.zero_mul,Int.add_zero]at this
 exact this
def idv (j l:Nat):Int:=if j=l then 1 else 0
theorem D_id:∀{m:Nat},D m idv=1∨D m idv= -1
 |0=> .inl rfl
 |m+1=>by
  simp only [D]
  rw [sI_one (i:=m) (by omega) (fun j hj hn=>by simp [idv,hn])]
  rw [D_congr (w:=idv) (fun i hi l _=>by unfold skip;rw [if_pos hi])]
  have:=D_id (m:=m)
  unfold sgn idv
  rcases this with h|h<;>unfold idv at h<;>rw [h]<;>split<;>simp
theorem exch_d {m r:Nat} {b:Nat→V} {d s:Int} (hd:d=s*D m b) (hd0:d≠0) {y:V} {ty:Nat→Int} (hr:r<m) (hy:∀l<m,d*y l=sI m (fun j=>ty j*b j l)):s*D m (sv b r y)=ty r:=by
 have h1:d*D m (sv b r y)=ty r*D m b:=by
  have hc:D m (sv b r (fun l=>d*y l))=D m (sv b r (fun l=>sI m (fun j=>ty j*b j l))):=D_congr fun i hi l hl=>by
   unfold sv;split
   ·exact hy l hl
   ·rfl
  rw [←D_scale hr,hc,D_sum hr,sI_one hr,sv_self]
  intro j hj hn
  rw [D_eq (i:=j) (k:=r) hj hr hn (by rw [sv_ne hn,sv_same]),Int.mul_zero]
 have h2:d*(s*D m (sv b r y))=d*ty r:=by
  calc d*(s*D m (sv b r y))=s*(d*D m (sv b r y)):=by grind
   _=s*(ty r*D m b):=by rw [h1]
   _=ty r*(s*D m b):=by grind
   _=d*ty r:=by rw [←hd,Int.mul_comm]
 exact Int.eq_of_mul_eq_mul_left hd0 h2
theorem exch_t {m r i:Nat} {b:Nat→V} {d s:Int} (hd:d=s*D m b) (hd0:d≠0) (hs:s*s=1) {x y:V} {tx ty:Nat→Int} (hr:r<m) (hi:i<m) (hn:i≠r) (hx:∀l<m,d*x l=sI m (fun j=>tx j*b j l)) (hy:∀l<m,d*y l=sI m (fun j=>ty j*b j l)):
  tx i*ty r-ty i*tx r=d*(s*D m (sv (sv b r y) i x)):=by
 have e1:=exch_d hd hd0 hr hy
 have e2:=exch_d hd hd0 hi hy
 have h1:d*D m (sv (sv b r y) i x)=tx i*D m (sv b r y)-tx r*D m (sv b i y):=by
  have hc:D m (sv (sv b r y) i (fun l=>d*x l))=D m (sv (sv b r y) i (fun l=>sI m (fun j=>tx j*b j l))):=D_congr fun a ha l hl=>by
   unfold sv;split
   ·exact hx l hl
   ·rfl
  rw [←D_scale hi,hc,D_sum hi]
  have hi1:D m (sv (sv b r y) i (b i))=D m (sv b r y):=by
   rw [show b i=sv b r y i from(sv_ne hn).symm,sv_self]
  have hr1:D m (sv (sv b r y) i (b r))= -D m (sv b i y):=by
   rw [D_swap hr hi (Ne.symm hn),sv_self]
  have hz:∀j<m,j≠i→j≠r→tx j*D m (sv (sv b r y) i (b j))=0:=fun j hj h1 h2=>by
   rw [D_eq (i:=j) (k:=i) hj hi h1 (by rw [sv_ne h1,sv_ne h2,sv_same]),Int.mul_zero]
  rcases Nat.lt_or_gt_of_ne hn with h|h
  ·rw [sI_two h hr hz,hi1,hr1];grind
  ·rw [sI_two h hi (fun j hj a c=>hz j hj c a),hi1,hr1];grind
 grind
end Go.Dt
end
section
namespace Go.Dt
theorem sI_lin {a b:Int} {u v:Nat→Int} {n:Nat}:sI n (fun j=>a*u j+b*v j)=a*sI n u+b*sI n v:=by
 rw [sI_add,sI_mul,sI_mul]
theorem sI_ite {z:Int} {n r:Nat} (h:r<n):sI n (fun j=>if j=r then z else 0)=z:=by
 rw [sI_one h (fun j _ hn=>by rw [if_neg hn]),if_pos rfl]
abbrev M:=Nat→Nat→Int
structure Inv (m w:Nat) (T0:M) (u:Nat→Nat) (c:Nat→Int) (f:M) (bs:Nat→Nat) (d:Int):Prop where
 d0:0<d
 bsw:∀i<m,bs i<w
 det:∃s,s*s=1∧d=s*D m (fun j l=>T0 l (bs j))
 col:∀k<w,∀l<m,d*T0 l k=sI m (fun j=>f j k*T0 l (bs j))
 bas:∀i<m,∀j<m,f i (bs j)=if i=j then d else 0
 row:∀i<m,∀k<w,f i k=sI m (fun l=>f i (u l)*T0 l k)
 cost:∀k<w,f m k=d*c k-sI m (fun i=>c (bs i)*f i k)
def sp (p:Int):Int:=if p<0 then-1 else 1
theorem sp_mul {p:Int}:sp p*p=p.natAbs:=by unfold sp;split<;>omega
theorem sp_sp {p:Int}:sp p*sp p=1:=by unfold sp;split<;>rfl
def ub (bs:Nat→Nat) (r c:Nat) (i:Nat):Nat:=if i=r then c else bs i
theorem Inv.dvd {m w:Nat} {T0:M} {u:Nat→Nat} {co:Nat→Int} {f:M} {bs:Nat→Nat} {d:Int} (I:Inv m w T0 u co f bs d) {r c a b:Nat} (hr:r<m) (hc:c<w) (ha:a<m+1) (hn:a≠r) (hb:b<w):
  ∃z,f a b*f r c-f a c*f r b=d*z∧(a<m→z=I.det.choose*D m (sv (sv (fun j l=>T0 l (bs j)) r (fun l=>T0 l c)) a (fun l=>T0 l b))):=by
 have hdet:=I.det.choose_spec
 have key:∀i,i<m→i≠r→f i b*f r c-f i c*f r b=d*(I.det.choose*D m (sv (sv (fun j l=>T0 l (bs j)) r (fun l=>T0 l c)) i (fun l=>T0 l b))):=fun i hi hir=>
  exch_t (x:=fun l=>T0 l b) (y:=fun l=>T0 l c) (tx:=fun j=>f j b) (ty:=fun j=>f j c) hdet.2 (by have:=I.d0;omega) hdet.1 hr hi hir (fun l hl=>I.col b hb l hl) (fun l hl=>I.col c hc l hl)
 by_cases h:a=m
 ·subst h
  have e1:=I.cost b hb
  have e2:=I.cost c hc
  have hs:sI a (fun i=>co (bs i)*(f i b*f r c-f i c*f r b))=d*sI a (fun i=>if i=r then 0 else co (bs i)*(I.det.choose*D a (sv (sv (fun j l=>T0 l (bs j)) r (fun l=>T0 l c)) i (fun l=>T0 l b)))):=by
   rw [←sI_mul];apply sI_congr;intro i hi
   by_cases e:i=r
   ·subst e;rw [if_pos rfl];grind
   ·rw [if_neg e,key i hi e];grind
  have hs2:sI a (fun i=>co (bs i)*(f i b*f r c-f i c*f r b))=f r c*sI a (fun i=>co (bs i)*f i b)+(-f r b)*sI a (fun i=>co (bs i)*f i c):=by
   rw [←sI_lin];apply sI_congr;intro i hi;grind
  refine⟨co b*f r c-co c*f r b-sI a (fun i=>if i=r then 0 else co (bs i)*(I.det.choose*D a (sv (sv (fun j l=>T0 l (bs j)) r (fun l=>T0 l c)) i (fun l=>T0 l b)))),?_,fun h=>absurd h (Nat.lt_irrefl _)⟩
  rw [e1,e2]
  grind
 ·exact⟨_,key a (by omega) hn,fun _=>rfl⟩
structure Pvt (m w:Nat) (f:M) (d:Int) (r c:Nat) (f':M) (d':Int):Prop where
 oth:∀a<m+1,a≠r→∀b<w,d*f' a b=sp (f r c)*(f a b*f r c-f a c*f r b)
 own:∀b<w,f' r b=sp (f r c)*f r b
 d:d'=sp (f r c)*f r c
theorem Inv.pivot {m w:Nat} {T0:M} {u:Nat→Nat} {co:Nat→Int} {f:M} {bs:Nat→Nat} {d:Int} (I:Inv m w T0 u co f bs d) {r c:Nat} (hr:r<m) (hc:c<w) (hp:f r c≠0) (hu:∀l<m,u l<w) {f':M} {d':Int}
  (P:Pvt m w f d r c f' d'):Inv m w T0 u co f' (ub bs r c) d':=by
 have d0:=I.d0
 have hd0:d≠0:=by omega
 have all:∀a<m,∀b<w,d*f' a b=sp (f r c)*(f a b*f r c-f a c*f r b)+(if a=r then d*(sp (f r c)*f r b)else 0):=by
  intro a ha b hb
  by_cases e:a=r
  ·subst e;rw [P.own b hb,if_pos rfl];grind
  ·rw [P.oth a (by omega) e b hb,if_neg e];omega
 refine⟨?_,?_,?_,?_,?_,?_,?_⟩
 ·rw [P.d,sp_mul];omega
 ·intro i hi;unfold ub;split
  ·exact hc
  ·exact I.bsw i hi
 ·obtain⟨s,hs,hd⟩:=I.det
  refine⟨sp (f r c)*s,by have:=sp_sp (p:=f r c);grind,?_⟩
  have e:(fun j l=>T0 l (ub bs r c j))=sv (fun j l=>T0 l (bs j)) r (fun l=>T0 l c):=by
   funext j;unfold sv ub;split<;>rfl
  have:=exch_d (y:=fun l=>T0 l c) (ty:=fun j=>f j c) hd hd0 hr (fun l hl=>I.col c hc l hl)
  rw [e,P.d,Int.mul_assoc,this]
 ·intro k hk l hl
  apply Int.eq_of_mul_eq_mul_left hd0
  rw [←sI_mul]
  have e:sI m (fun j=>d*(f' j k*T0 l (ub bs r c j)))=sI m (fun j=>(sp (f r c)*f r c)*(f j k*T0 l (bs j))+(-sp (f r c)*f r k)*(f j c*T0 l (bs j)))+sI m (fun j=>if j=r then d*(sp (f r c)*f r k)*T0 l c else 0):=by
   rw [←sI_add];apply sI_congr;intro j hj
   have h:=all j hj k hk
   by_cases e:j=r
   ·subst e;rw [if_pos rfl]at h⊢;rw [P.own k hk];unfold ub;rw [if_pos rfl];grind
   ·rw [if_neg e]at h⊢;unfold ub;rw [if_neg e];grind
  rw [e,sI_lin,sI_ite hr,←I.col k hk l hl,←I.col c hc l hl,P.d]
  grind
 ·intro i hi j hj
  unfold ub
  by_cases ej:j=r
  ·subst ej
   rw [if_pos rfl]
   by_cases ei:i=j
   ·subst ei;rw [if_pos rfl,P.own c hc,P.d]
   ·rw [if_neg ei]
    have h:=P.oth i (by omega) ei c hc
    apply Int.eq_of_mul_eq_mul_left hd0;rw [h];grind
  ·rw [if_neg ej]
   have hb:=I.bas r hr j hj
   rw [if_neg (Ne.symm ej)]at hb
   by_cases ei:i=r
   ·subst ei;rw [if_neg (Ne.symm ej),P.own _ (I.bsw j hj),hb,Int.mul_zero]
   ·have h:=P.oth i (by omega) ei _ (I.bsw j hj)
    have hb2:=I.bas i hi j hj
    apply Int.eq_of_mul_eq_mul_left hd0;rw [h,hb,hb2,P.d]
    split<;>grind
 ·intro i hi k hk
  by_cases ei:i=r
  ·subst ei
   rw [P.own k hk,I.row i hi k hk,←sI_mul]
   apply sI_congr;intro l hl
   rw [P.own _ (hu l hl)];grind
  ·apply Int.eq_of_mul_eq_mul_left hd0
   rw [P.oth i (by omega) ei k hk,←sI_mul]
   have e:sI m (fun l=>d*(f' i (u l)*T0 l k))=sI m (fun l=>(sp (f r c)*f r c)*(f i (u l)*T0 l k)+(-sp (f r c)*f i c)*(f r (u l)*T0 l k)):=by
    apply sI_congr;intro l hl
    have h:=P.oth i (by omega) ei _ (hu l hl)
    grind
   rw [e,sI_lin,←I.row i hi k hk,←I.row r hr k hk];grind
 ·intro k hk
  apply Int.eq_of_mul_eq_mul_left hd0
  rw [P.oth m (by omega) (by omega) k hk]
  have e:d*sI m (fun i=>co (ub bs r c i)*f' i k)=sI m (fun i=>(sp (f r c)*f r c)*(co (bs i)*f i k)+(-sp (f r c)*f r k)*(co (bs i)*f i c))+sI m (fun i=>if i=r then d*(sp (f r c)*f r k)*co c else 0):=by
   rw [←sI_mul,←sI_add];apply sI_congr;intro i hi
   have h:=all i hi k hk
   by_cases e:i=r
   ·subst e;rw [if_pos rfl]at h⊢;rw [P.own k hk];unfold ub;rw [if_pos rfl];grind
   ·rw [if_neg e]at h⊢;unfold ub;rw [if_neg e];grind
  rw [Int.mul_sub d,e,sI_lin,sI_ite hr,P.d]
  have e1:=I.cost k hk
  have e2:=I.cost c hc
  grind
end Go.Dt
namespace Go.Dt
theorem sI_comm {f:Nat→Nat→Int} {m:Nat}:∀{n:Nat},sI n (fun i=>sI m (fun j=>f i j))=sI m (fun j=>sI n (fun i=>f i j))
 |0=>by simp only [sI];rw [sI_zero (fun _ _=>rfl)]
 |n+1=>by simp only [sI];rw [sI_comm,←sI_add]
theorem sI_sub {f g:Nat→Int}:∀{n:Nat},sI n (fun i=>f i-g i)=sI n f-sI n g
 |0=>rfl
 |n+1=>by simp only [sI];rw [sI_sub];omega
theorem sI_nonneg {f:Nat→Int}:∀{n:Nat},(∀i<n,0≤f i)→0≤sI n f
 |0,_=>by simp [sI]
 |n+1,h=>by
  simp only [sI]
  have:=sI_nonneg (fun i (hi:i<n)=>h i (by omega))
  have:=h n (by omega);omega
theorem sI_split {f:Nat→Int} {a:Nat}:∀{b:Nat},sI (a+b) f=sI a f+sI b (fun i=>f (a+i))
 |0=>by simp [sI]
 |b+1=>by rw [←Nat.add_assoc];simp only [sI];rw [sI_split];omega
theorem Inv.pi {m w:Nat} {T0:M} {u:Nat→Nat} {co:Nat→Int} {f:M} {bs:Nat→Nat} {d:Int} (I:Inv m w T0 u co f bs d) (hu:∀l<m,u l<w) {k:Nat} (hk:k<w):
  f m k=d*co k-sI m (fun l=>(d*co (u l)-f m (u l))*T0 l k):=by
 have e:sI m (fun i=>co (bs i)*f i k)=sI m (fun l=>(d*co (u l)-f m (u l))*T0 l k):=by
  have e1:sI m (fun i=>co (bs i)*f i k)=sI m (fun i=>sI m (fun l=>co (bs i)*(f i (u l)*T0 l k))):=by
   apply sI_congr;intro i hi;rw [I.row i hi k hk,←sI_mul]
  rw [e1,sI_comm]
  apply sI_congr;intro l hl
  have:=I.cost (u l) (hu l hl)
  have e2:d*co (u l)-f m (u l)=sI m (fun i=>co (bs i)*f i (u l)):=by omega
  rw [e2,Int.mul_comm (sI m _),←sI_mul]
  apply sI_congr;intro i hi;grind
 rw [I.cost k hk,e]
theorem Inv.inj {m w:Nat} {T0:M} {u:Nat→Nat} {co:Nat→Int} {f:M} {bs:Nat→Nat} {d:Int} (I:Inv m w T0 u co f bs d) {i j:Nat} (hi:i<m) (hj:j<m) (e:bs i=bs j):i=j:=by
 by_cases h:i=j
 ·exact h
 ·have h1:=I.bas i hi i hi
  have h2:=I.bas i hi j hj
  rw [if_pos rfl]at h1
  rw [if_neg h,←e,h1]at h2
  have:=I.d0;omega
theorem Inv.cost0 {m w:Nat} {T0:M} {u:Nat→Nat} {co:Nat→Int} {f:M} {bs:Nat→Nat} {d:Int} (I:Inv m w T0 u co f bs d) {j:Nat} (hj:j<m):f m (bs j)=0:=by
 rw [I.cost _ (I.bsw j hj),sI_one hj (fun i hi hn=>by rw [I.bas i hi j hj,if_neg hn,Int.mul_zero]),I.bas j hj j hj,if_pos rfl]
 have:=Int.mul_comm d (co (bs j));omega
theorem sI_basis {n m:Nat} {g h:Nat→Int} {bs:Nat→Nat} (hg:∀j<m,n≤bs j→g (bs j)=0):
  sI n (fun k=>g k*sI m (fun j=>if bs j=k then h j else 0))=sI m (fun j=>g (bs j)*h j):=by
 have e:sI n (fun k=>g k*sI m (fun j=>if bs j=k then h j else 0))=sI n (fun k=>sI m (fun j=>g k*(if bs j=k then h j else 0))):=by
  apply sI_congr;intro k _;rw [sI_mul]
 rw [e,sI_comm]
 apply sI_congr;intro j hj
 by_cases hb:bs j<n
 ·rw [sI_one hb (fun k _ hn=>by rw [if_neg (fun e=>hn e.symm),Int.mul_zero]),if_pos rfl]
 ·rw [sI_zero (fun k hk=>by rw [if_neg (by omega),Int.mul_zero]),hg j hj (by omega),Int.zero_mul]
def dir (m:Nat) (f:M) (bs:Nat→Nat) (d:Int) (c k:Nat):Int:=(if k=c then d else 0)-sI m (fun j=>if bs j=k then f j c else 0)
theorem sI_dir {n m:Nat} {g:Nat→Int} {f:M} {bs:Nat→Nat} {d:Int} {c:Nat} (hg:∀j<m,n≤bs j→g (bs j)=0) (hc:n≤c→g c=0):
  sI n (fun k=>g k*dir m f bs d c k)=d*g c-sI m (fun j=>g (bs j)*f j c):=by
 have e:sI n (fun k=>g k*dir m f bs d c k)=sI n (fun k=>g k*(if k=c then d else 0))-sI n (fun k=>g k*sI m (fun j=>if bs j=k then f j c else 0)):=by
  rw [←sI_sub];apply sI_congr;intro k _;unfold dir;grind
 rw [e,sI_basis hg]
 by_cases h:c<n
 ·rw [sI_one h (fun k _ hn=>by rw [if_neg hn,Int.mul_zero]),if_pos rfl,Int.mul_comm]
 ·rw [sI_zero (fun k hk=>by rw [if_neg (by omega),Int.mul_zero]),hc (by omega)];simp
end Go.Dt
end
section
namespace Go.Dt
abbrev St:=M×(Nat→Nat)×Int
structure BSt (m E C:Nat) (s:St) (r c:Nat) (s':St):Prop where
 hr:r<m
 hc:c<C
 neg:s.1 m c<0
 fst:∀k<c,0≤s.1 m k
 pos:0<s.1 r c
 min:∀j<m,0<s.1 j c→s.1 r E*s.1 j c<s.1 j E*s.1 r c∨(s.1 r E*s.1 j c=s.1 j E*s.1 r c∧s.2.1 r≤s.2.1 j)
 pvt:Pvt m (E+1) s.1 s.2.2 r c s'.1 s'.2.2
 bs:s'.2.1=ub s.2.1 r c
structure Sq (m E C:Nat) (T0:M) (u:Nat→Nat) (co:Nat→Int) (h:Nat→St) (rr cc:Nat→Nat) (N:Nat):Prop where
 inv:Inv m (E+1) T0 u co (h 0).1 (h 0).2.1 (h 0).2.2
 rhs:∀i<m,0≤(h 0).1 i E
 st:∀k<N,BSt m E C (h k) (rr k) (cc k) (h (k+1))
 hC:C≤E
 hu:∀l<m,u l<E+1
theorem ratioI {a b c d e g:Int} (hb:0<b) (h1:a*d≤c*b) (h2:c*g≤e*d) (hd:0<d) (hg:0<g):a*g≤e*b:=by
 have h3:a*g*d≤e*b*d:=by
  calc a*g*d=a*d*g:=by rw [Int.mul_right_comm]
   _≤c*b*g:=Int.mul_le_mul_of_nonneg_right h1 (by omega)
   _=c*g*b:=by rw [Int.mul_right_comm]
   _≤e*d*b:=Int.mul_le_mul_of_nonneg_right h2 (by omega)
   _=e*b*d:=by rw [Int.mul_right_comm]
 exact Int.le_of_mul_le_mul_right h3 hd
theorem sp_pos {p:Int} (h:0<p):sp p=1:=by unfold sp;rw [if_neg (by omega)]
section
variable {m E C:Nat} {T0:M} {u:Nat→Nat} {co:Nat→Int}
theorem BSt.inv {s s':St} {r c:Nat} (I:Inv m (E+1) T0 u co s.1 s.2.1 s.2.2) (h:BSt m E C s r c s') (hC:C≤E) (hu:∀l<m,u l<E+1):Inv m (E+1) T0 u co s'.1 s'.2.1 s'.2.2:=by
 rw [h.bs]
 exact I.pivot h.hr (by have:=h.hc;omega) (by have:=h.pos;omega) hu h.pvt
theorem BSt.oth {s s':St} {r c:Nat} (h:BSt m E C s r c s') {a b:Nat} (ha:a<m+1) (hn:a≠r) (hb:b<E+1):s.2.2*s'.1 a b=s.1 a b*s.1 r c-s.1 a c*s.1 r b:=by
 have:=h.pvt.oth a ha hn b hb
 rw [sp_pos h.pos,Int.one_mul]at this;exact this
theorem BSt.own {s s':St} {r c:Nat} (h:BSt m E C s r c s') {b:Nat} (hb:b<E+1):s'.1 r b=s.1 r b:=by
 have:=h.pvt.own b hb
 rw [sp_pos h.pos,Int.one_mul]at this;exact this
theorem BSt.d {s s':St} {r c:Nat} (h:BSt m E C s r c s'):s'.2.2=s.1 r c:=by
 have:=h.pvt.d
 rw [sp_pos h.pos,Int.one_mul]at this;exact this
theorem BSt.rhs {s s':St} {r c:Nat} (I:Inv m (E+1) T0 u co s.1 s.2.1 s.2.2) (h:BSt m E C s r c s') (hn:∀i<m,0≤s.1 i E):∀i<m,0≤s'.1 i E:=by
 intro i hi
 by_cases e:i=r
 ·subst e;rw [h.own (by omega)];exact hn i hi
 ·have h1:=h.oth (show i<m+1 by omega) e (show E<E+1 by omega)
  have d0:=I.d0
  have hp:=h.pos
  have h2:0≤s.1 i E*s.1 r c-s.1 i c*s.1 r E:=by
   by_cases hc0:0<s.1 i c
   ·have:=h.min i hi hc0
    have e2:s.1 i c*s.1 r E=s.1 r E*s.1 i c:=Int.mul_comm _ _
    omega
   ·have a1:=Int.mul_nonneg (hn i hi) (show 0≤s.1 r c by omega)
    have a2:0≤(-(s.1 i c))*s.1 r E:=Int.mul_nonneg (by omega) (hn r h.hr)
    rw [Int.neg_mul]at a2;omega
  rw [←h1]at h2
  by_cases h3:0≤s'.1 i E
  ·exact h3
  ·have:s.2.2*s'.1 i E<0:=Int.mul_neg_of_pos_of_neg d0 (by omega)
   omega
theorem Sq.invs {h:Nat→St} {rr cc:Nat→Nat} {N:Nat} (S:Sq m E C T0 u co h rr cc N):∀{k},k≤N→Inv m (E+1) T0 u co (h k).1 (h k).2.1 (h k).2.2 ∧∀i<m,0≤(h k).1 i E
 |0,_=>⟨S.inv,S.rhs⟩
 |k+1,hk=>by
  obtain⟨i1,i2⟩:=S.invs (k:=k) (by omega)
  exact⟨(S.st k (by omega)).inv i1 S.hC S.hu,(S.st k (by omega)).rhs i1 i2⟩
theorem Sq.shift {h:Nat→St} {rr cc:Nat→Nat} {N:Nat} (S:Sq m E C T0 u co h rr cc N) {i n:Nat} (hi:i+n≤N):Sq m E C T0 u co (fun k=>h (i+k)) (fun k=>rr (i+k)) (fun k=>cc (i+k)) n:=
 ⟨(S.invs (k:=i) (by omega)).1,(S.invs (k:=i) (by omega)).2,fun k hk=>S.st (i+k) (by omega),S.hC,S.hu⟩
theorem Inv.same {f f':M} {bs bs':Nat→Nat} {d d':Int} {w:Nat} (I:Inv m w T0 u co f bs d) (J:Inv m w T0 u co f' bs' d') (hb:∀i<m,bs' i=bs i):
  d'=d∧(∀i<m,∀k<w,f' i k=f i k)∧∀k<w,f' m k=f m k:=by
 obtain⟨s,hs,hd⟩:=I.det
 obtain⟨s',hs',hd'⟩:=J.det
 have e:D m (fun j l=>T0 l (bs' j))=D m (fun j l=>T0 l (bs j)):=D_congr fun j hj l hl=>by rw [hb j hj]
 have a1:=I.d0
 have a2:=J.d0
 have q:∀{x:Int},x*x=1→x=1∨x= -1:=fun {x} hx=>by
  have h1:x.natAbs*x.natAbs=1:=by rw [←Int.natAbs_mul,hx];rfl
  have:=Nat.eq_one_of_mul_eq_one_left h1
  omega
 rw [e]at hd'
 have ed:d'=d:=by
  rcases q hs with h|h<;>rcases q hs' with h'|h'<;>subst h<;>subst h'<;>omega
 have d0:d≠0:=by omega
 have ef:∀i<m,∀k<w,f' i k=f i k:=by
  intro i hi k hk
  have x1:=exch_d (y:=fun l=>T0 l k) (ty:=fun j=>f j k) hd d0 hi (fun l hl=>I.col k hk l hl)
  have x2:=exch_d (s:=s) (b:=fun j l=>T0 l (bs j)) (y:=fun l=>T0 l k) (ty:=fun j=>f' j k) hd d0 hi (fun l hl=>by
   have:=J.col k hk l hl
   rw [ed]at this;rw [this];exact sI_congr fun j hj=>by rw [hb j hj])
  rw [←x2,x1]
 refine⟨ed,ef,fun k hk=>?_⟩
 rw [I.cost k hk,J.cost k hk,ed]
 congr 1
 exact sI_congr fun j hj=>by rw [hb j hj,ef j hj k hk]
theorem two_costs {f f':M} {bs bs':Nat→Nat} {d d':Int} {w:Nat} (I:Inv m w T0 u co f bs d) (J:Inv m w T0 u co f' bs' d') (hu:∀l<m,u l<w) {p:Nat} (hp:p<w):
  sI m (fun j=>f m (bs' j)*f' j p)=d'*f m p-d*f' m p:=by
 have e1:sI m (fun j=>f m (bs' j)*f' j p)=d*sI m (fun j=>co (bs' j)*f' j p)-sI m (fun l=>(d*co (u l)-f m (u l))*sI m (fun j=>f' j p*T0 l (bs' j))):=by
  have:sI m (fun l=>(d*co (u l)-f m (u l))*sI m (fun j=>f' j p*T0 l (bs' j)))=sI m (fun j=>sI m (fun l=>(d*co (u l)-f m (u l))*(f' j p*T0 l (bs' j)))):=by
   rw [←sI_comm];apply sI_congr;intro l _;rw [sI_mul]
  rw [this,←sI_mul,←sI_sub]
  apply sI_congr;intro j hj
  rw [I.pi hu (J.bsw j hj),Int.sub_mul,Int.mul_assoc]
  congr 1
  rw [Int.mul_comm (sI m _),←sI_mul]
  apply sI_congr;intro l _;grind
 have e2:sI m (fun l=>(d*co (u l)-f m (u l))*sI m (fun j=>f' j p*T0 l (bs' j)))=d'*sI m (fun l=>(d*co (u l)-f m (u l))*T0 l p):=by
  rw [←sI_mul];apply sI_congr;intro l hl;rw [←J.col p hp l hl];grind
 have e3:=J.cost p hp
 have e4:=I.pi hu hp
 rw [e1,e2,e4]
 have e5:sI m (fun j=>co (bs' j)*f' j p)=d'*co p-f' m p:=by omega
 rw [e5];grind
theorem Sq.mono {h : Nat → St} {rr cc : Nat → Nat} {N : Nat} (S : Sq m E C T0 u co h rr cc N) {i : Nat} : ∀ {k}, i ≤ k → k ≤ N → (h i).1 m E * (h k).2.2 ≤ (h k).1 m E * (h i).2.2
  | 0, hi, _ => by have : i = 0 := by omega
                   subst this; exact Int.le_refl _
  | k + 1, hi, hk => by
    by_cases e : i = k + 1
    · subst e; exact Int.le_refl _
    · have ih := S.mono (i := i) (k := k) (by omega) (by omega)
      have J := S.st k (by omega)
      have i0 := (S.invs (k := i) (by omega)).1.d0
      have k0 := (S.invs (k := k) (by omega)).1.d0
      have k1 := (S.invs (k := k + 1) hk).1.d0
      refine ratioI i0 ih ?_ k0 k1
      have h1 := J.oth (show m < m + 1 by omega) (by have := J.hr; omega) (show E < E + 1 by omega)
      have h2 : 0 ≤ -((h k).1 m (cc k)) * (h k).1 (rr k) E := Int.mul_nonneg (by have := J.neg; omega) ((S.invs (k := k) (by omega)).2 _ J.hr)
      rw [Int.neg_mul] at h2
      rw [J.d, Int.mul_comm ((h (k + 1)).1 m E)]; omega
theorem max_at {g : Nat → Nat} : ∀ {N : Nat}, 0 < N → ∃ k, k < N ∧ ∀ t < N, g t ≤ g k
  | 0, h => absurd h (by omega)
  | 1, _ => ⟨0, by omega, fun t ht => by have : t = 0 := by omega
                                         subst this; exact Nat.le_refl _⟩
  | N + 2, _ => by
    obtain ⟨k, hk, hm⟩ := max_at (g := g) (N := N + 1) (by omega)
    by_cases e : g k ≤ g (N + 1)
    · refine ⟨N + 1, by omega, fun t ht => ?_⟩
      by_cases et : t = N + 1
      · subst et; exact Nat.le_refl _
      · exact Nat.le_trans (hm t (by omega)) e
    · refine ⟨k, by omega, fun t ht => ?_⟩
      by_cases et : t = N + 1
      · subst et; omega
      · exact hm t (by omega)
theorem Sq.leaves {h : Nat → St} {rr cc : Nat → Nat} {N : Nat} (S : Sq m E C T0 u co h rr cc N) {q a : Nat} (ha : ∃ i, i < m ∧ (h a).2.1 i = q) : ∀ {b}, a ≤ b → b ≤ N → (¬∃ i, i < m ∧ (h b).2.1 i = q) → ∃ k, k < N ∧ (h k).2.1 (rr k) = q
  | 0, h1, _, h3 => by have : a = 0 := by omega
                       subst this; exact absurd ha h3
  | b + 1, h1, h2, h3 => by
    by_cases e : a = b + 1
    · subst e; exact absurd ha h3
    · by_cases hb : ∃ i, i < m ∧ (h b).2.1 i = q
      · obtain ⟨i, hi, hq⟩ := hb
        refine ⟨b, by omega, ?_⟩
        by_cases er : i = rr b
        · rw [← er]; exact hq
        · exact absurd ⟨i, hi, by rw [(S.st b (by omega)).bs]; unfold ub; rw [if_neg er]; exact hq⟩ h3
      · exact S.leaves ha (by omega) (by omega) hb
theorem Sq.row {h:Nat→St} {rr cc:Nat→Nat} {N:Nat} (S:Sq m E C T0 u co h rr cc N) {j:Nat}:∀{k},k≤N→(∃t,t<k∧(h k).2.1 j=cc t)∨((h k).2.1 j=(h 0).2.1 j∧∀t<k,rr t≠j)
 |0,_=> .inr ⟨rfl,fun t ht=>absurd ht (by omega)⟩
 |k+1,hk=>by
  have e:=(S.st k (by omega)).bs
  by_cases er:j=rr k
  ·exact .inl ⟨k,by omega,by rw [e];unfold ub;rw [if_pos er]⟩
  ·have e2:(h (k+1)).2.1 j=(h k).2.1 j:=by rw [e];unfold ub;rw [if_neg er]
   rcases S.row (j:=j) (k:=k) (by omega)with⟨t,ht,hh⟩|⟨h1,h2⟩
   ·exact .inl ⟨t,by omega,by rw [e2,hh]⟩
   ·refine .inr ⟨by rw [e2,h1],fun t ht=>?_⟩
    by_cases et:t=k
    ·subst et;exact fun h=>er h.symm
    ·exact h2 t (by omega)
theorem Sq.nocycle {h:Nat→St} {rr cc:Nat→Nat} {N:Nat} (S:Sq m E C T0 u co h rr cc N) (hN:0<N) (hcyc:∀i<m,(h N).2.1 i=(h 0).2.1 i):False:=by
 have I0:=(S.invs (k:=0) (by omega)).1
 have IN:=(S.invs (k:=N) (by omega)).1
 obtain⟨ed,ef,ec⟩:=I0.same IN hcyc
 have hz:∀k<N,(h k).1 (rr k) E=0:=by
  intro k hk
  have J:=S.st k hk
  have n0:=(S.invs (k:=k) (by omega)).2 _ J.hr
  by_cases hn:(h k).1 (rr k) E=0
  ·exact hn
  exfalso
  have k0:=(S.invs (k:=k) (by omega)).1.d0
  have k1:=(S.invs (k:=k+1) (by omega)).1.d0
  have m1:=S.mono (i:=0) (k:=k) (by omega) (by omega)
  have m2:=S.mono (i:=k+1) (k:=N) (by omega) (by omega)
  rw [ed,ec E (by omega)]at m2
  have m3:=ratioI k1 m2 m1 I0.d0 k0
  have h1:=J.oth (show m<m+1 by omega) (by have:=J.hr;omega) (show E<E+1 by omega)
  have h2:0< -((h k).1 m (cc k))*(h k).1 (rr k) E:=Int.mul_pos (by have:=J.neg;omega) (by omega)
  rw [Int.neg_mul]at h2
  rw [J.d,Int.mul_comm ((h (k+1)).1 m E)]at m3
  omega
 have hzr:∀{k},k≤N→∀i<m,((h k).1 i E=0↔(h 0).1 i E=0):=by
  intro k
  induction k with
  |zero=>intro _ i _;exact Iff.rfl
  |succ k ih=>
   intro hk i hi
   rw [←ih (by omega) i hi]
   have J:=S.st k (by omega)
   by_cases e:i=rr k
   ·rw [e,J.own (by omega)]
   ·have h1:=J.oth (show i<m+1 by omega) e (show E<E+1 by omega)
    rw [hz k (by omega),Int.mul_zero,Int.sub_zero]at h1
    have k0:=(S.invs (k:=k) (by omega)).1.d0
    have p0:=J.pos
    constructor
    ·intro h0
     rw [h0,Int.mul_zero]at h1
     rcases Int.mul_eq_zero.1 h1.symm with h|h
     ·exact h
     ·omega
    ·intro h0
     rw [h0,Int.zero_mul]at h1
     rcases Int.mul_eq_zero.1 h1 with h|h
     ·omega
     ·exact h
 obtain⟨a,ha,hmax⟩:=max_at (g:=cc) hN
 have A:=S.st a ha
 have IA:=(S.invs (k:=a) (by omega)).1
 have hCE:=S.hC
 have hqE:cc a<E+1:=by have:=A.hc;omega
 have nA:¬∃i,i<m∧(h a).2.1 i=cc a:=by
  rintro⟨i,hi,e⟩
  have:=IA.cost0 hi
  rw [e]at this
  have:=A.neg;omega
 have yA:∃i,i<m∧(h (a+1)).2.1 i=cc a:=⟨rr a,A.hr,by rw [A.bs];unfold ub;rw [if_pos rfl]⟩
 obtain⟨b,hb,hq⟩:∃k,k<N∧(h k).2.1 (rr k)=cc a:=by
  by_cases hl:∃i,i<m∧(h N).2.1 i=cc a
  ·obtain⟨i,hi,e⟩:=hl
   exact S.leaves (a:=0) ⟨i,hi,by rw [←hcyc i hi];exact e⟩ (Nat.zero_le a) (by omega) nA
  ·exact S.leaves yA (show a+1≤N by omega) (Nat.le_refl _) hl
 have B:=S.st b hb
 have IB:=(S.invs (k:=b) (by omega)).1
 have hpE:cc b<E+1:=by have:=B.hc;omega
 have hpq:cc b<cc a:=by
  have h1:=hmax b hb
  by_cases e:cc b=cc a
  ·exfalso
   have:=IB.cost0 B.hr
   rw [hq,←e]at this
   have:=B.neg;omega
  ·omega
 have key:=two_costs IA IB S.hu hpE
 have hpos:0<sI m (fun j=>(h a).1 m ((h b).2.1 j)*(h b).1 j (cc b)):=by
  rw [key]
  have h1:0≤(h b).2.2 *(h a).1 m (cc b):=Int.mul_nonneg (by have:=IB.d0;omega) (A.fst _ hpq)
  have h2:0<(h a).2.2 * -((h b).1 m (cc b)):=Int.mul_pos IA.d0 (by have:=B.neg;omega)
  rw [Int.mul_neg]at h2;omega
 have hneg:0≤sI m (fun j=>(-1)*((h a).1 m ((h b).2.1 j)*(h b).1 j (cc b))):=by
  apply sI_nonneg
  intro j hj
  suffices (h a).1 m ((h b).2.1 j)*(h b).1 j (cc b)≤0 by omega
  by_cases ej:j=rr b
  ·subst ej
   rw [hq]
   exact Int.mul_nonpos_of_nonpos_of_nonneg (by have:=A.neg;omega) (by have:=B.pos;omega)
  have hrow:(∃t,t<N∧(h b).2.1 j=cc t)∨(h a).2.1 j=(h b).2.1 j:=by
   rcases S.row (j:=j) (k:=b) (by omega)with⟨t,ht,e⟩|⟨e,_⟩
   ·exact .inl ⟨t,by omega,e⟩
   ·rcases S.row (j:=j) (k:=N) (by omega)with⟨t,ht,e2⟩|⟨_,e2⟩
    ·exact .inl ⟨t,ht,by rw [e,←hcyc j hj,e2]⟩
    ·refine .inr ?_
     have all:∀{k},k≤N→(h k).2.1 j=(h 0).2.1 j:=by
      intro k
      induction k with
      |zero=>intro _;rfl
      |succ k ih=>
       intro hk
       rw [(S.st k (by omega)).bs];unfold ub
       rw [if_neg (fun e=>e2 k (by omega) e.symm)];exact ih (by omega)
     rw [all (k:=a) (by omega),all (k:=b) (by omega)]
  rcases hrow with⟨t,ht,e⟩|e
  ·have hle:(h b).2.1 j≤cc a:=by rw [e];exact hmax t ht
   have hlt:(h b).2.1 j<cc a:=by
    by_cases e2:(h b).2.1 j=cc a
    ·exact absurd (IB.inj hj B.hr (by rw [e2,hq])) ej
    ·omega
   have c1:=A.fst _ hlt
   by_cases hz0:(h b).1 j E=0
   ·have c2:(h b).1 j (cc b)≤0:=by
     by_cases hp:0<(h b).1 j (cc b)
     ·exfalso
      have:=B.min j hj hp
      rw [hz b hb,hz0,Int.zero_mul,Int.zero_mul,hq]at this
      omega
     ·omega
    exact Int.mul_nonpos_of_nonneg_of_nonpos c1 c2
   ·
    have all:∀{k},k≤N→(h k).2.1 j=(h 0).2.1 j:=by
     intro k
     induction k with
     |zero=>intro _;rfl
     |succ k ih=>
      intro hk
      rw [(S.st k (by omega)).bs];unfold ub
      rw [if_neg (fun e=>by
       have:=hz k (by omega)
       rw [←e]at this
       exact hz0 ((hzr (k:=b) (by omega) j hj).2 ((hzr (k:=k) (by omega) j hj).1 this)))];exact ih (by omega)
    have:=IA.cost0 hj
    rw [all (by omega),←all (k:=b) (by omega)]at this
    rw [this,Int.zero_mul];exact Int.le_refl _
  ·have:=IA.cost0 hj
   rw [e]at this
   rw [this,Int.zero_mul];exact Int.le_refl _
 rw [sI_mul]at hneg
 omega
end
theorem pigeon:∀(K:Nat) (g:Nat→Nat),(∀k≤K,g k<K)→∃i j,i<j∧j≤K∧g i=g j
 |0,g,h=>absurd (h 0 (Nat.le_refl _)) (by omega)
 |K+1,g,h=>by
  by_cases hx:∃i,i≤K∧g i=g (K+1)
  ·obtain⟨i,hi,e⟩:=hx
   exact⟨i,K+1,by omega,by omega,e⟩
  ·obtain⟨i,j,hij,hj,e⟩:=pigeon K (fun k=>if g k=K then g (K+1)else g k) (fun k hk=>by
    have h1:=h k (by omega)
    have h2:=h (K+1) (by omega)
    have h3:g k≠g (K+1):=fun e=>hx ⟨k,hk,e⟩
    try dsimp only
    split<;>omega)
   try dsimp only at e
   have h3:g i≠g (K+1):=fun e=>hx ⟨i,by omega,e⟩
   have h4:g j≠g (K+1):=fun e=>hx ⟨j,by omega,e⟩
   refine⟨i,j,hij,by omega,?_⟩
   split at e<;>split at e<;>omega
def cd (w:Nat) (b:Nat→Nat):Nat→Nat
 |0=>0
 |m+1=>cd w b m*w+b m
theorem cd_lt {w:Nat} {b:Nat→Nat}:∀{m:Nat},(∀i<m,b i<w)→cd w b m<w^m
 |0,_=>by simp [cd]
 |m+1,h=>by
  have h1:=cd_lt (w:=w) (b:=b) (m:=m) (fun i hi=>h i (by omega))
  have h2:=h m (by omega)
  simp only [cd,Nat.pow_succ]
  calc cd w b m*w+b m<cd w b m*w+w:=by omega
   _=(cd w b m+1)*w:=by rw [Nat.add_mul,Nat.one_mul]
   _≤w^m*w:=Nat.mul_le_mul_right _ h1
theorem cd_inj {w:Nat} {a b:Nat→Nat}:∀{m:Nat},(∀i<m,a i<w)→(∀i<m,b i<w)→cd w a m=cd w b m→∀i<m,a i=b i
 |0,_,_,_,i,hi=>absurd hi (by omega)
 |m+1,ha,hb,e,i,hi=>by
  simp only [cd]at e
  have h1:=ha m (by omega)
  have h2:=hb m (by omega)
  have e1:a m=b m:=by
   have x:=congrArg (· %w) e
   simp only [Nat.mul_add_mod_self_right,Nat.mod_eq_of_lt h1,Nat.mod_eq_of_lt h2]at x
   exact x
  have e2:cd w a m=cd w b m:=by
   have:cd w a m*w=cd w b m*w:=by omega
   exact Nat.eq_of_mul_eq_mul_right (by omega) this
  by_cases ei:i=m
  ·subst ei;exact e1
  ·exact cd_inj (m:=m) (fun i hi=>ha i (by omega)) (fun i hi=>hb i (by omega)) e2 i (by omega)
theorem Sq.bd {m E C:Nat} {T0:M} {u:Nat→Nat} {co:Nat→Int} {h:Nat→St} {rr cc:Nat→Nat} {N:Nat} (S:Sq m E C T0 u co h rr cc N):N<(E+1)^m:=by
 by_cases hn:N<(E+1)^m
 ·exact hn
 exfalso
 have hw:∀{k},k≤N→∀i<m,(h k).2.1 i<E+1:=fun hk i hi=>(S.invs hk).1.bsw i hi
 obtain⟨i,j,hij,hj,e⟩:=pigeon ((E+1)^m) (fun k=>cd (E+1) (h k).2.1 m) (fun k hk=>cd_lt (hw (by omega)))
 have hb:=cd_inj (hw (k:=i) (by omega)) (hw (k:=j) (by omega)) e
 refine(S.shift (i:=i) (n:=j-i) (by omega)).nocycle (by omega) (fun a ha=>?_)
 try dsimp only
 rw [show i+(j-i)=j by omega,Nat.add_zero]
 exact(hb a ha).symm
end Go.Dt
end
section
namespace Go.Dt
abbrev B62 (x:Int):Prop:= -4611686018427387904≤x∧x≤4611686018427387904
theorem mulw_bd {a b:Int} (ha:B62 a) (hb:B62 b) (h0:b≠0): -9223372036854775808≤(Go.IntKind.i64.wrap (a*b)).tdiv b∧(Go.IntKind.i64.wrap (a*b)).tdiv b≤9223372036854775807:=by
 have hw:=Go.IntKind.wrap_i64 (a*b)
 generalize hc:Go.IntKind.i64.wrap (a*b)=c at*
 have e:(c.tdiv b).natAbs =c.natAbs/b.natAbs:=Int.natAbs_tdiv c b
 have hcb:c.natAbs≤9223372036854775808:=by omega
 by_cases h1:b.natAbs=1
 ·have h2:b=1∨b= -1:=by omega
  have:c.natAbs≤4611686018427387904:=by
   rcases h2 with rfl|rfl
   ·rw [Int.mul_one]at hw;omega
   ·rw [Int.mul_neg_one]at hw;omega
  have h3:c.natAbs/b.natAbs≤c.natAbs:=Nat.div_le_self _ _
  omega
 ·have h2:2≤b.natAbs:=by omega
  have h3:c.natAbs/b.natAbs≤c.natAbs/2:=Nat.div_le_div_left h2 (by omega)
  omega
theorem mulw_ex {a b:Int} (hb:B62 b) (h0:b≠0) (h:(Go.IntKind.i64.wrap (a*b)).tdiv b=a):Go.IntKind.i64.wrap (a*b)=a*b:=by
 have hw:=Go.IntKind.wrap_i64 (a*b)
 generalize hc:Go.IntKind.i64.wrap (a*b)=c at*
 have e:=Int.mul_tdiv_add_tmod c b
 have h1:(c.tmod b).natAbs <b.natAbs:=by
  have e2:(c.tmod b).natAbs =c.natAbs%b.natAbs:=Int.natAbs_tmod c b
  rw [e2];exact Nat.mod_lt _ (by omega)
 rw [h,Int.mul_comm]at e
 generalize a*b=P at*
 generalize c.tmod b=r at*
 omega
theorem mulw_fit {a b:Int} (h0:b≠0) (h:B62 (a*b)):Go.IntKind.i64.wrap (a*b)=a*b∧(a*b).tdiv b=a:=by
 refine⟨?_,Int.mul_tdiv_cancel _ h0⟩
 have hw:=Go.IntKind.wrap_i64 (a*b)
 omega
structure Cal (ov ov':Prop) (x v:Int):Prop where
 ex:¬ov'→¬ov∧v=x
 fit:B62 x→ov'→ov
 bd:B62 v
end Go.Dt
end
section
namespace Go.Fq
theorem sm_div {n d:Int} (hd:0<d) (h1:n.natAbs≤MT) (h2:d.natAbs≤MT):Sm ((n:Rat)/(d:Rat)):=by
 have e:(n:Rat)/(d:Rat)=Rat.divInt n d:=(Rat.divInt_eq_div n d).symm
 obtain⟨t1,t2⟩:=divInt_terms n d (by omega)
 rw [e]
 refine⟨?_,?_⟩
 ·rw [t2]
  have:=Nat.div_le_self n.natAbs (Nat.gcd n.natAbs d.natAbs)
  generalize n.natAbs/Nat.gcd n.natAbs d.natAbs=q at*
  split<;>simp only [Int.natAbs_neg,Int.natAbs_natCast]<;>omega
 ·rw [t1]
  have:=Nat.div_le_self d.natAbs (Nat.gcd n.natAbs d.natAbs)
  generalize d.natAbs/Nat.gcd n.natAbs d.natAbs=q at*
  omega
theorem fenc_fit {r:Rat} (h:Sm r):(fenc r).2.2 =0∧VF ((fenc r).1,(fenc r).2.1)∧val ((fenc r).1,(fenc r).2.1)=r:=by
 unfold fenc;rw [if_pos h]
 exact⟨rfl,vf_enc h,val_enc⟩
def tot:List Int→List Int→Nat
 |a::as,g::gs=>(a*g).natAbs +tot as gs
 |_,_=>0
theorem pgo_fit {d:Int} (hd:0<d) (hd2:d.natAbs≤MT):∀{a b:List F} {ga gb:List Int} {s:F} {S:Int},a.length=b.length→ga.length=a.length→gb.length=b.length→(∀f∈a,VF f)→(∀f∈b,VF f)→
  (∀i<a.length,at' a i=(ga.getD i 0:Rat))→(∀i<b.length,at' b i=(gb.getD i 0:Rat)/(d:Rat))→VF s→val s=(S:Rat)/(d:Rat)→S.natAbs+tot ga gb≤MT→(pgo a b s).2.2 =0
 |[],[],_,_,s,S,_,_,_,_,_,_,_,_,_,_=>rfl
 |x::xs,y::ys,g::gs,h::hs,s,S,hl,h1,h2,va,vb,ea,eb,vs,es,ht=>by
  have ex:val x=(g:Rat):=by simpa [at']using ea 0 (by simp)
  have ey:val y=(h:Rat)/(d:Rat):=by simpa [at']using eb 0 (by simp)
  have hx:=va x (by simp)
  have hy:=vb y (by simp)
  simp only [tot]at ht
  have em:val x*val y=((g*h:Int):Rat)/(d:Rat):=by rw [ex,ey,Rat.intCast_mul];grind
  have f1:fmul x y=fenc (((g*h:Int):Rat)/(d:Rat)):=by unfold fmul;rw [if_pos ⟨hx,hy⟩,em]
  obtain⟨m1,m2,m3⟩:=fenc_fit (sm_div (n:=g*h) hd (by omega) hd2)
  have ed:val s+((g*h:Int):Rat)/(d:Rat)=((S+g*h:Int):Rat)/(d:Rat):=by rw [es,Rat.intCast_add];grind
  have f2:fadd s ((fmul x y).1,(fmul x y).2.1)=fenc (((S+g*h:Int):Rat)/(d:Rat)):=by
   unfold fadd;rw [f1,if_pos ⟨vs,m2⟩,m3,ed]
  obtain⟨n1,n2,n3⟩:=fenc_fit (sm_div (n:=S+g*h) hd (by omega) hd2)
  unfold pgo
  rw [f2,if_pos (by rw [f1];exact m1),if_pos n1]
  refine pgo_fit hd hd2 (ga:=gs) (gb:=hs) (S:=S+g*h) (by simpa using hl) (by simpa using h1) (by simpa using h2) (fun f hf=>va f (by simp [hf])) (fun f hf=>vb f (by simp [hf])) ?_ ?_ n2 n3 (by omega)
  ·intro i hi;have:=ea (i+1) (by simpa using hi);simpa [at']using this
  ·intro i hi;have:=eb (i+1) (by simpa using hi);simpa [at']using this
end Go.Fq
end
section
namespace Go.Dt
theorem sI_abs {f:Nat→Int} {B:Nat}:∀{n:Nat},(∀i<n,(f i).natAbs ≤B)→(sI n f).natAbs ≤n*B
 |0,_=>by simp [sI]
 |n+1,h=>by
  simp only [sI]
  have h1:=sI_abs (fun i (hi:i<n)=>h i (by omega))
  have h2:=h n (by omega)
  rw [Nat.add_mul,Nat.one_mul]
  omega
def bd:Nat→Nat
 |0=>1
 |m+1=>(m+1)*(10*bd m)
theorem sgn_abs {j:Nat}:(sgn j).natAbs =1:=by unfold sgn;split<;>rfl
theorem Inv.entry {m w:Nat} {T0:M} {u:Nat→Nat} {co:Nat→Int} {f:M} {bs:Nat→Nat} {d:Int} (I:Inv m w T0 u co f bs d):∃s:Int,s*s=1∧d=s*D m (fun j l=>T0 l (bs j))∧∀i<m,∀k<w,f i k=s*D m (sv (fun j l=>T0 l (bs j)) i (fun l=>T0 l k)):=by
 obtain⟨s,hs,hd⟩:=I.det
 exact⟨s,hs,hd,fun i hi k hk=>(exch_d (y:=fun l=>T0 l k) (ty:=fun j=>f j k) hd (by have:=I.d0;omega) hi (fun l hl=>I.col k hk l hl)).symm⟩
theorem sq1 {s:Int} (h:s*s=1):s.natAbs=1:=by
 have h1:s.natAbs*s.natAbs=1:=by rw [←Int.natAbs_mul,h];rfl
 exact Nat.eq_one_of_mul_eq_one_left h1
end Go.Dt
end
section
namespace Go.Np
structure Ln where
 k:Int
 c:Int
 n:Int
 w:List Int
 s:List Int
structure Fl where
 nm:ByteArray
 rt:List Int
 cl:Int
 lo:Int
 hi:Int
 v:List Int
 p:Int
 q:Int
structure Nt where
 nm:List ByteArray
 ln:List Ln
 fl:List Fl
abbrev ln0:Ln:=⟨0,0,0,[],[]⟩
abbrev fl0:Fl:=⟨ByteArray.empty,[],0,0,0,[],0,0⟩
abbrev bs0:ByteArray:=ByteArray.empty
def bt (s:ByteArray) (i:Nat):Int:=((s[i]?).getD 0).toNat
def okC (c:Int):Prop:=c=45∨(48≤c∧c≤57)∨(97≤c∧c≤122)
def WordP (s:ByteArray):Prop:=1≤s.size∧s.size≤12∧(97≤bt s 0∧bt s 0≤122)∧∀i,i<s.size→okC (bt s i)
instance {c:Int}:Decidable (okC c):=by unfold okC;infer_instance
instance {s:ByteArray}:Decidable (WordP s):=by unfold WordP;infer_instance
def inR (l:List Int) (a b:Int):Prop:=∀x∈l,a≤x∧x≤b
instance {l:List Int} {a b:Int}:Decidable (inR l a b):=by unfold inR;infer_instance
def lsErr (l:Ln):Int:=
 if l.k=3∧¬((l.w.length:Int)=l.n∧inR l.w 1 20)∨l.k=4∧¬((l.w.length:Int)=l.n∧inR l.w 1 6000)∨l.k=5∧¬(1≤l.s.length∧l.s.length≤40∧inR l.s (-1) (l.n-1))then 2
 else if(l.k≠3∧l.k≠4∧l.w.length≠0)∨(l.k≠5∧l.s.length≠0)then 6 else 0
def lnErr (l:Ln):Int:=
 if l.k<1∨5<l.k then 9
 else if l.c<1∨4000<l.c∨l.n<1∨6<l.n then 2
 else lsErr l
open Classical in
noncomputable def nmErr (met:List ByteArray) (s:ByteArray):Int:=if¬WordP s then 4 else if s∈met then 60 else 0
def firstE (f:Nat→Int):Nat→Int
 |0=>0
 |m+1=>if firstE f m≠0 then firstE f m else f m
theorem firstE_all {f:Nat→Int}:∀{m:Nat},(∀i<m,f i=0)→firstE f m=0
 |0,_=>rfl
 |m+1,h=>by
  simp only [firstE]
  rw [firstE_all (fun i hi=>h i (by omega)),if_neg (by simp)]
  exact h m (by omega)
theorem firstE_ge {f : Nat → Int} {i : Nat} : ∀ {m : Nat}, i ≤ m → firstE f i ≠ 0 → firstE f m = firstE f i
  | 0, h, _ => by have : i = 0 := by omega
                  subst this; rfl
  | m + 1, h, hn => by
    by_cases e : i = m + 1
    · subst e; rfl
    · have := firstE_ge (m := m) (by omega) hn
      simp only [firstE]
      rw [this, if_pos hn]
theorem firstE_at {f:Nat→Int} {i m:Nat} (hi:i<m) (h:∀j<i,f j=0) (hn:f i≠0):firstE f m=f i:=by
 have e:firstE f (i+1)=f i:=by simp only [firstE];rw [firstE_all h,if_neg (by simp)]
 rw [firstE_ge (i:=i+1) (by omega) (by rw [e];exact hn),e]
theorem firstE_zero {f:Nat→Int} {m:Nat} (h:firstE f m=0):∀i<m,f i=0:=by
 intro i hi
 induction i using Nat.strongRecOn with
 |ind i ih=>
  by_cases hn:f i=0
  ·exact hn
  ·have:=firstE_at hi (fun j hj=>ih j hj (by omega)) hn
   rw [h]at this;exact absurd this.symm hn
noncomputable def lineE (n:Nt) (i:Nat):Int:=if nmErr (n.nm.take i) (n.nm.getD i bs0)≠0 then nmErr (n.nm.take i) (n.nm.getD i bs0)else lnErr (n.ln.getD i ln0)
def hopE (ls:List Ln) (f:Fl) (k:Nat):Int:=
 if f.rt.getD k 0<0∨(ls.length:Int)≤f.rt.getD k 0 then 2
 else if f.rt.getD k 0∈f.rt.take k then 60
 else if f.cl<0∨(ls.getD (f.rt.getD k 0).toNat ln0).n ≤f.cl then 2 else 0
def routeE (ls:List Ln) (f:Fl):Int:=if f.rt.length=0 then 5 else if 4<f.rt.length then 3 else firstE (hopE ls f) f.rt.length
def trafE (V N:Prop) [Decidable V] [Decidable N] (f:Fl):Int:=
 if f.lo<1∨f.hi<f.lo∨1500<f.hi then 2 else if¬V then 1 else if f.v.getD 0 0≠0 then 6 else if¬N then 2 else 0
def hop (n:Nt) (f l:Int):Int:=
 if f<0∨(n.fl.length:Int)≤f then-1
 else if l∈(n.fl.getD f.toNat fl0).rt then((n.fl.getD f.toNat fl0).rt.idxOf l:Nat)else-1
def usr (n:Nt) (l:Int):Nat→List Int
 |0=>[]
 |i+1=>if 0≤hop n i l then usr n l i++[(i:Int)]else usr n l i
def users (n:Nt) (l:Int):List Int:=usr n l n.fl.length
theorem usr_len {n:Nt} {l:Int}:∀{i:Nat},(usr n l i).length ≤i
 |0=>by simp [usr]
 |i+1=>by
  have:=usr_len (n:=n) (l:=l) (i:=i)
  simp only [usr];split<;>simp<;>omega
end Go.Np
end
section
namespace Go.Np
open Go.Cv
def FinP (vs:List Int):Prop:=vs.getD (vs.length-1) 0≠INF
open Classical in
noncomputable def flowE (n:Nt) (i:Nat):Int:=
 if nmErr ((n.fl.take i).map (·.nm)) (n.fl.getD i fl0).nm ≠0 then nmErr ((n.fl.take i).map (·.nm)) (n.fl.getD i fl0).nm
 else if routeE n.ln (n.fl.getD i fl0)≠0 then routeE n.ln (n.fl.getD i fl0)
 else trafE (ValidP (n.fl.getD i fl0).v (n.fl.getD i fl0).p (n.fl.getD i fl0).q) (FinP (n.fl.getD i fl0).v) (n.fl.getD i fl0)
noncomputable def chkN (n:Nt):Int:=
 if n.ln.length=0∨8<n.ln.length∨10<n.fl.length then 3
 else if n.nm.length≠n.ln.length then 2
 else if firstE (lineE n) n.ln.length≠0 then firstE (lineE n) n.ln.length
 else firstE (flowE n) n.fl.length
theorem chkN_line {n:Nt} {i:Nat} (h1:¬(n.ln.length=0∨8<n.ln.length∨10<n.fl.length)) (h2:n.nm.length=n.ln.length) (hi:i<n.ln.length) (h:∀j<i,lineE n j=0) (hn:lineE n i≠0):chkN n=lineE n i:=by
 unfold chkN
 rw [if_neg h1,if_neg (by omega),firstE_at hi h hn,if_pos hn]
theorem chkN_flow {n:Nt} {i:Nat} (h1:¬(n.ln.length=0∨8<n.ln.length∨10<n.fl.length)) (h2:n.nm.length=n.ln.length) (hl:∀j<n.ln.length,lineE n j=0) (hi:i<n.fl.length) (h:∀j<i,flowE n j=0) (hn:flowE n i≠0):chkN n=flowE n i:=by
 unfold chkN
 rw [if_neg h1,if_neg (by omega),firstE_all hl,if_neg (by simp),firstE_at hi h hn]
theorem chkN_ok {n:Nt} (h1:¬(n.ln.length=0∨8<n.ln.length∨10<n.fl.length)) (h2:n.nm.length=n.ln.length) (hl:∀j<n.ln.length,lineE n j=0) (h:∀j<n.fl.length,flowE n j=0):chkN n=0:=by
 unfold chkN
 rw [if_neg h1,if_neg (by omega),firstE_all hl,if_neg (by simp),firstE_all h]
theorem chkN_zero {n:Nt} (h:chkN n=0):¬(n.ln.length=0∨8<n.ln.length∨10<n.fl.length)∧n.nm.length=n.ln.length∧(∀j<n.ln.length,lineE n j=0)∧∀j<n.fl.length,flowE n j=0:=by
 unfold chkN at h
 split at h
 ·omega
 ·split at h
  ·omega
  ·split at h
   ·contradiction
   ·rename_i h1 h2 h3
    exact⟨h1,by omega,firstE_zero (by omega),firstE_zero h⟩
def lname (i:Nat):ByteArray:=⟨#[(97+i).toUInt8]⟩
def fname (i:Nat):ByteArray:=⟨#[(102+i).toUInt8]⟩
structure FlG (m k:Nat) (f:Fl):Prop where
 cl:0≤f.cl∧f.cl<k
 lo:1≤f.lo∧f.lo≤3
 hi:f.lo≤f.hi∧f.hi≤7
 r1:1≤f.rt.length∧f.rt.length≤3
 rb:∀x∈f.rt,0≤x∧x<m
 nd:∀i j,i<j→j<f.rt.length→f.rt.getD i 0≠f.rt.getD j 0
 ct:∃b:Int,4≤b∧b≤16∧1≤f.p∧f.p≤12∧f.v=0::List.replicate f.p.toNat b∧0≤f.q∧f.q≤3
structure NtG (k:Nat) (n:Nt):Prop where
 k1:1≤k∧k≤2
 ll:1≤n.ln.length∧n.ln.length≤4
 nl:n.nm.length=n.ln.length
 nm:∀i,i<n.ln.length→n.nm.getD i bs0=lname i
 le:∀l∈n.ln,lnErr l=0∧l.n=k
 fl:n.fl.length≤5
 fn:∀i,i<n.fl.length→(n.fl.getD i fl0).nm =fname i
 fg:∀f∈n.fl,FlG n.ln.length k f
theorem getD_in {α:Type} {l:List α} {d:α} {i:Nat} (h:i<l.length):l.getD i d∈l:=by
 rw [List.getD_eq_getElem?_getD,List.getElem?_eq_getElem h];exact List.getElem_mem h
theorem mem_take {α:Type} {l:List α} {d x:α} {i:Nat} (h:x∈l.take i):∃j,j<i∧j<l.length∧x=l.getD j d:=by
 obtain⟨j,hj,e⟩:=List.mem_iff_getElem.1 h
 rw [List.length_take]at hj
 refine⟨j,by omega,by omega,?_⟩
 rw [←e,List.getElem_take]
 simp [List.getD_eq_getElem?_getD,show j<l.length by omega]
theorem lname_word:∀i<4,WordP (lname i):=by decide+kernel
theorem fname_word:∀i<5,WordP (fname i):=by decide+kernel
theorem lname_inj:∀i<4,∀j<4,lname i=lname j→i=j:=by decide+kernel
theorem fname_inj:∀i<5,∀j<5,fname i=fname j→i=j:=by decide+kernel
theorem nm_fresh {met:List ByteArray} {s:ByteArray} (h:WordP s) (hm:s∉met):nmErr met s=0:=by
 unfold nmErr;rw [if_neg (fun k=>k h),if_neg hm]
theorem FlG.valid {m k:Nat} {f:Fl} (g:FlG m k f):ValidP f.v f.p f.q∧FinP f.v:=by
 obtain⟨b,b1,b2,p1,p2,hv,q1,q2⟩:=g.ct
 have hlen:f.v.length=f.p.toNat+1:=by rw [hv];simp
 have hg:∀j,j<f.p.toNat+1→f.v.getD j 0=if j=0 then 0 else b:=by
  intro j hj
  rw [hv]
  cases j with
  |zero=>rfl
  |succ j=>simp [List.getD_eq_getElem?_getD,List.getElem?_replicate,show j<f.p.toNat by omega]
 have hlast:f.v.getD (f.v.length-1) 0=b:=by rw [hg _ (by omega),if_neg (by omega)]
 refine⟨⟨by omega,by omega,by omega,by omega,by omega,by omega,by omega,?_,?_,?_,?_⟩,?_⟩
 ·intro j hj;rw [hg j (by omega)];split<;>omega
 ·intro j hj;rw [hg j (by omega),hg (j+1) (by omega)];split<;>split<;>omega
 ·intro h;rw [hlast]at h;omega
 ·intro _;rw [hlast,hg _ (by omega)];split<;>omega
 ·unfold FinP;rw [hlast];unfold INF;omega
theorem FlG.route {m k:Nat} {ls:List Ln} {f:Fl} (g:FlG m k f) (hm:ls.length=m) (hk:∀l∈ls,l.n=k):routeE ls f=0:=by
 have r1:=g.r1
 unfold routeE
 rw [if_neg (by omega),if_neg (by omega)]
 apply firstE_all
 intro i hi
 have hx:=g.rb _ (getD_in (d:=0) hi)
 have hc:=g.cl
 unfold hopE
 rw [if_neg (by omega),if_neg,if_neg]
 ·have:=hk (ls.getD (f.rt.getD i 0).toNat ln0) (getD_in (by omega))
  omega
 ·intro h
  obtain⟨j,hj,_,e⟩:=mem_take (d:=0) h
  exact g.nd j i hj hi e.symm
theorem NtG.line {k:Nat} {n:Nt} (g:NtG k n):∀i<n.ln.length,lineE n i=0:=by
 intro i hi
 have h4:=g.ll.2
 have e:=g.nm i hi
 have hf:nmErr (n.nm.take i) (n.nm.getD i bs0)=0:=by
  rw [e]
  refine nm_fresh (lname_word i (by omega)) fun h=>?_
  obtain⟨j,hj,hj2,e2⟩:=mem_take (d:=bs0) h
  rw [g.nm j (by omega)]at e2
  have:=lname_inj i (by omega) j (by omega) e2
  omega
 unfold lineE
 rw [hf,if_neg (by simp)]
 exact(g.le _ (getD_in hi)).1
theorem NtG.flow {k:Nat} {n:Nt} (g:NtG k n):∀i<n.fl.length,flowE n i=0:=by
 intro i hi
 have h5:=g.fl
 have e:=g.fn i hi
 have hf:nmErr ((n.fl.take i).map (·.nm)) (n.fl.getD i fl0).nm =0:=by
  rw [e]
  refine nm_fresh (fname_word i (by omega)) fun h=>?_
  obtain⟨x,hx,e1⟩:=List.mem_map.1 h
  obtain⟨j,hj,hj2,e2⟩:=mem_take (d:=fl0) hx
  rw [e2,g.fn j (by omega)]at e1
  have:=fname_inj j (by omega) i (by omega) e1
  omega
 have G:=g.fg _ (getD_in (d:=fl0) hi)
 have hr:=G.route rfl (fun l hl=>(g.le l hl).2)
 have hv:=G.valid
 unfold flowE
 rw [hf,if_neg (by simp),hr,if_neg (by simp)]
 have l1:=G.lo
 have l2:=G.hi
 obtain⟨b,_,_,_,_,hv0,_⟩:=G.ct
 unfold trafE
 rw [if_neg (by omega),if_neg (fun h=>h hv.1),if_neg (by rw [hv0];simp),if_neg (fun h=>h hv.2)]
theorem NtG.chk {k:Nat} {n:Nt} (g:NtG k n):chkN n=0:=by
 have h1:=g.ll
 have h2:=g.fl
 exact chkN_ok (by omega) g.nl g.line g.flow
end Go.Np
end
