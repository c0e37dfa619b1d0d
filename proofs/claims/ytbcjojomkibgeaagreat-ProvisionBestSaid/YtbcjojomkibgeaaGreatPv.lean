/- Lemmas of this seat. Conditions: as stated. -/
import Derived.Test.YtbcjojomkibgeaaGreatPl
import Derived.Test.YtbcjojomkibgeaaGreatQy
import Derived.Test.YtbcjojomkibgeaaGreatN7
set_option linter.unusedVariables false
set_option linter.unusedSimpArgs false
set_option maxHeartbeats 2000000
set_option maxRecDepth 4000
section
namespace Go.Pv
open Go.Np Go.Fq
structure Dm where
 lo:Int
 hi:Int
 w:Int
instance :Inhabited Dm:=⟨⟨0,0,0⟩⟩
def dm0:Dm:=⟨0,0,0⟩
def DmOK (d:Dm):Prop:=0≤d.lo∧d.lo≤d.hi∧d.hi≤4000∧0≤d.w∧d.w≤100
open Classical in
noncomputable def pchk (n:Nt) (l:List Dm):Int:=
 if chkN n≠0 then chkN n else if 6<n.fl.length then 3 else if l.length≠n.fl.length∨l.length=0 then 2 else if∀d∈l,DmOK d then 0 else 2
def o1 (b:Bool):F:=if b then(1,1)else(0,1)
def crow (c:Nat→Bool) (k:Nat):List F:=(List.range k).map fun f=>o1 (c f)
abbrev hops (n:Nt) (i:Nat) (f:Nat):Bool:=decide (0≤hop n f i)
abbrev alon (i f:Nat):Bool:=decide (f=i)
def lrw (n:Nt) (k:Nat):Nat→List Rw
 |0=>[]
 |i+1=>lrw n k i++if 0<(users n i).length then [(crow (hops n i) k,1,((n.ln.getD i ln0).c,1))]else []
def drw (l:List Dm):Nat→List Rw
 |0=>[]
 |i+1=>drw l i++[(crow (alon i) l.length,2,((l.getD i dm0).lo,1)),(crow (alon i) l.length,1,((l.getD i dm0).hi,1))]
def dcs (l:List Dm):List F:=l.map fun d=>(-d.w,1)
def wts (l:List Dm):List F:=l.map fun d=>(d.w,1)
def prg (n:Nt) (l:List Dm):Pr:=⟨dcs l,lrw n l.length n.ln.length++drw l l.length⟩
theorem crow_len {c:Nat→Bool} {k:Nat}:(crow c k).length =k:=by simp [crow]
theorem crow_succ {c:Nat→Bool} {k:Nat}:crow c (k+1)=crow c k++[o1 (c k)]:=by simp [crow,List.range_succ]
theorem crow_get {c:Nat→Bool} {k j:Nat} (h:j<k):(crow c k).getD j (0,1)=o1 (c j):=by
 rw [List.getD_eq_getElem?_getD];simp [crow,h]
theorem lrw_len {n:Nt} {k:Nat}:∀{i:Nat},(lrw n k i).length ≤i
 |0=>by simp [lrw]
 |i+1=>by
  have:=lrw_len (n:=n) (k:=k) (i:=i)
  simp only [lrw,List.length_append];split<;>simp<;>omega
theorem drw_len {l:List Dm}:∀{i:Nat},(drw l i).length =2*i
 |0=>by simp [drw]
 |i+1=>by
  have:=drw_len (l:=l) (i:=i)
  simp only [drw,List.length_append,List.length_cons,List.length_nil];omega
theorem mem_lrw {n:Nt} {k:Nat} {w:Rw}:∀{i:Nat},w∈lrw n k i↔∃j,j<i∧0<(users n j).length ∧w=(crow (hops n j) k,1,((n.ln.getD j ln0).c,1))
 |0=>by simp [lrw]
 |i+1=>by
  simp only [lrw,List.mem_append,mem_lrw (i:=i)]
  constructor
  ·rintro(⟨j,h1,h2,h3⟩|h)
   ·exact⟨j,by omega,h2,h3⟩
   ·split at h
    ·rename_i hu;exact⟨i,by omega,hu,List.mem_singleton.1 h⟩
    ·simp at h
  ·rintro⟨j,h1,h2,h3⟩
   by_cases e:j=i
   ·subst e;right;rw [if_pos h2,List.mem_singleton];exact h3
   ·exact .inl ⟨j,by omega,h2,h3⟩
theorem mem_drw {l:List Dm} {w:Rw}:∀{i:Nat},w∈drw l i↔∃j,j<i∧(w=(crow (alon j) l.length,2,((l.getD j dm0).lo,1))∨w=(crow (alon j) l.length,1,((l.getD j dm0).hi,1)))
 |0=>by simp [drw]
 |i+1=>by
  simp only [drw,List.mem_append,mem_drw (i:=i),List.mem_cons,List.not_mem_nil,or_false]
  constructor
  ·rintro(⟨j,h1,h2⟩|h)
   ·exact⟨j,by omega,h2⟩
   ·exact⟨i,by omega,h⟩
  ·rintro⟨j,h1,h2⟩
   by_cases e:j=i
   ·subst e;exact .inr h2
   ·exact .inl ⟨j,by omega,h2⟩
theorem mem_prg {n:Nt} {l:List Dm} {w:Rw}:w∈(prg n l).r ↔(∃j,j<n.ln.length∧0<(users n j).length ∧w=(crow (hops n j) l.length,1,((n.ln.getD j ln0).c,1)))∨∃j,j<l.length∧(w=(crow (alon j) l.length,2,((l.getD j dm0).lo,1))∨w=(crow (alon j) l.length,1,((l.getD j dm0).hi,1))):=by
 unfold prg;rw [List.mem_append,mem_lrw,mem_drw]
theorem vf_one {x:Int} (h:x.natAbs≤1000000):VF (x,1):=⟨by show(1:Int)≤1;decide,by show(1:Int)≤1073741824;decide,by show _≤x;omega,by show x≤_;omega,by simp⟩
theorem o1_vf {b:Bool}:VF (o1 b):=by cases b<;>decide
theorem crow_vf {c:Nat→Bool} {k:Nat}:∀f∈crow c k,VF f:=fun f hf=>by
 obtain⟨i,_,rfl⟩:=List.mem_map.1 hf;exact o1_vf
theorem crow_one {c:Nat→Bool} {k:Nat}:∀f∈crow c k,f.2=1∧f.1.natAbs≤1:=fun f hf=>by
 obtain⟨i,_,rfl⟩:=List.mem_map.1 hf
 cases c i<;>decide
theorem prg_cl {n:Nt} {l:List Dm}:(prg n l).c.length =l.length:=by simp [prg,dcs]
theorem pchk_zero {n:Nt} {l:List Dm} (h:pchk n l=0):chkN n=0∧n.fl.length≤6∧l.length=n.fl.length∧1≤l.length∧∀d∈l,DmOK d:=by
 unfold pchk at h
 split at h
 ·contradiction
 ·split at h
  ·omega
  ·split at h
   ·omega
   ·split at h
    ·rename_i h1 h2 h3 h4;exact⟨by omega,by omega,by omega,by omega,h4⟩
    ·omega
theorem pchk_of {n:Nt} {l:List Dm} (h1:chkN n=0) (h2:n.fl.length≤6) (h3:l.length=n.fl.length) (h4:1≤l.length) (h5:∀d∈l,DmOK d):pchk n l=0:=by
 unfold pchk;rw [if_neg (by omega),if_neg (by omega),if_neg (by omega),if_pos h5]
theorem chk_lines {n:Nt} (h:chkN n=0):1≤n.ln.length∧n.ln.length≤8∧∀i<n.ln.length,1≤(n.ln.getD i ln0).c ∧(n.ln.getD i ln0).c ≤4000:=by
 obtain⟨h1,h2,h3,h4⟩:=chkN_zero h
 refine⟨by omega,by omega,fun i hi=>?_⟩
 have:=h3 i hi
 unfold lineE at this
 split at this
 ·contradiction
 ·unfold lnErr at this
  split at this
  ·omega
  ·split at this
   ·omega
   ·omega
theorem dm_in {l:List Dm} {P:Dm→Prop} (h:∀d∈l,P d) {i:Nat} (hi:i<l.length):P (l.getD i dm0):=h _ (Go.Np.getD_in hi)
theorem prg_vp {n:Nt} {l:List Dm} (h:pchk n l=0):VP (prg n l):=by
 obtain⟨h1,h2,h3,h4,h5⟩:=pchk_zero h
 obtain⟨g1,g2,g3⟩:=chk_lines h1
 refine⟨by rw [prg_cl];exact h4,by rw [prg_cl];omega,?_,fun f hf=>?_,fun w hw=>?_⟩
 ·unfold prg;simp only [List.length_append]
  have:=lrw_len (n:=n) (k:=l.length) (i:=n.ln.length)
  have:=drw_len (l:=l) (i:=l.length)
  omega
 ·obtain⟨d,hd,rfl⟩:=List.mem_map.1 hf
  have:=h5 d hd;unfold DmOK at this
  exact vf_one (by omega)
 ·rw [prg_cl]
  rcases mem_prg.1 hw with⟨j,hj,_,rfl⟩|⟨j,hj,rfl|rfl⟩
  ·have:=g3 j hj
   exact⟨crow_len,by dsimp only;omega,by dsimp only;omega,crow_vf,vf_one (by omega)⟩
  ·have:=dm_in h5 hj;unfold DmOK at this
   exact⟨crow_len,by dsimp only;omega,by dsimp only;omega,crow_vf,vf_one (by omega)⟩
  ·have:=dm_in h5 hj;unfold DmOK at this
   exact⟨crow_len,by dsimp only;omega,by dsimp only;omega,crow_vf,vf_one (by omega)⟩
theorem at_crow {c:Nat→Bool} {k j:Nat} (h:j<k):at' (crow c k) j=if c j then 1 else 0:=by
 unfold at';rw [crow_get h]
 cases c j
 ·show val (0,1)=_;rw [val_zero];rfl
 ·show val (1,1)=_;decide+kernel
theorem sm_alon {k i:Nat} {x:Nat→Rat} (hi:i<k):sm k (fun j=>at' (crow (alon i) k) j*x j)=x i:=by
 have:∀m,m≤k→sm m (fun j=>at' (crow (alon i) k) j*x j)=if i<m then x i else 0:=by
  intro m
  induction m with
  |zero=>intro _;rfl
  |succ m ih=>
   intro hm
   simp only [sm]
   rw [ih (by omega),at_crow (by omega)]
   by_cases e:m=i
   ·subst e
    rw [if_neg (Nat.lt_irrefl _),if_pos (Nat.lt_succ_self _)]
    show(0:Rat)+(if decide (m=m)=true then 1 else 0)*x m=x m
    rw [if_pos (by simp)];grind
   ·have e2:alon i m=false:=by simp [alon,e]
    rw [e2]
    by_cases c:i<m
    ·rw [if_pos c,if_pos (show i<m+1 by omega),if_neg (by decide)];grind
    ·rw [if_neg c,if_neg (show¬i<m+1 by omega),if_neg (by decide)];grind
 rw [this k (Nat.le_refl _),if_pos hi]
def dcw (l:List Dm):Nat→List F
 |0=>[]
 |i+1=>dcw l i++[(-(l.getD i dm0).w,1)]
theorem dcw_len {l:List Dm}:∀{i:Nat},(dcw l i).length =i
 |0=>rfl
 |i+1=>by simp only [dcw,List.length_append,dcw_len (i:=i)];rfl
theorem dcw_take {l:List Dm}:∀{i:Nat},i≤l.length→dcw l i=(dcs l).take i
 |0,_=>by simp [dcw]
 |i+1,h=>by
  rw [List.take_add_one,←dcw_take (by omega)]
  simp only [dcw]
  congr 1
  unfold dcs
  rw [List.getElem?_map,List.getD_eq_getElem?_getD,List.getElem?_eq_getElem (show i<l.length by omega)];rfl
theorem dcw_all {l:List Dm}:dcw l l.length=dcs l:=by
 rw [dcw_take (Nat.le_refl _),List.take_of_length_le (by simp [dcs])]
theorem wts_len {l:List Dm}:(wts l).length =l.length:=by simp [wts]
theorem wts_take {l:List Dm} {i:Nat} (h:i<l.length):(wts l).take (i+1)=(wts l).take i++[((l.getD i dm0).w,1)]:=by
 rw [List.take_add_one]
 congr 1
 unfold wts
 rw [List.getElem?_map,List.getD_eq_getElem?_getD,List.getElem?_eq_getElem h];rfl
theorem wts_tl {l:List Dm} {i:Nat} (h:i≤l.length):((wts l).take i).length =i:=by rw [List.length_take,wts_len];omega
open Classical in
noncomputable def prgE (n:Nt) (l:List Dm):Pr:=if pchk n l=0 then prg n l else⟨[],[]⟩
end Go.Pv
end
namespace Go.Proofs.YtbcjojomkibgeaaGreat
section
open Go.Sx Go.Fq Go.Np Go.Pv
abbrev dmv (d:Dm):List SV:=[i64 d.lo,i64 d.hi,i64 d.w]
abbrev dms (l:List Dm):List (List SV):=l.map dmv
abbrev dml (l:List Dm):SV:= .psl 3 (dms l)
theorem dml_len (l:List Dm):(dms l).length =l.length:=by simp [dms]
theorem dml_get {l:List Dm} {i:Nat} (h:i<l.length):(dms l)[i]? =some (dmv (l.getD i dm0)):=by simp [dms,h]
end
section
open Go.Sx Go.Fq Go.Np Go.Pv
theorem aP_Y1 {A B K:Prop} (k:K) (a:A:=by(simp only [zA,zT,zD,zC,zN,ints_len,zR,dml_len];omega)) (b:B:=by(simp only [zA,zT,zD,zC,zN,ints_len,zR,dml_len];omega)):(A∧B)∧K:=⟨⟨a,b⟩,k⟩
theorem z1_Y1 {G H:Prop} (k:H) (h:H→G:=by first|exact fun r=>aS r|exact fun r=>aG r|exact fun r=>aD r|exact fun r=>aH r|exact fun r=>aP_Y1 r|exact fun r=>aI r|exact fun r=>aJ r):G:=h k
theorem pCheck_ok (n:Nt) (hn:NL n) (l:List Dm) (hl:l.length≤9223372036854775807):Ctr Tryz.prog 18 [ntv n,dml l] [] (fun r o=>o=[]∧r=i64 (pchk n l)):=by
 refine Ctr.imp ?_
 refine fI 0 Tryz.func18 ?_
 have cN:=nCheck_ok n hn
 have hfl:=fll n.fl
 have hll:=dml_len l
 (repeat' (conv=>whnf);first|refine aC ?_ ?_<;>intro<;>try omega|refine z1_Y1 ?_|(refine aK [] cN ?_)|fail);all_goals try (conv=>whnf)
 ·exact⟨rfl,Imp.num (by unfold pchk;rw [if_pos (by assumption)])⟩
 ·exact⟨rfl,Imp.num (by unfold pchk;rw [if_neg (by assumption),if_pos (by omega)])⟩
 ·exact⟨rfl,Imp.num (by unfold pchk;rw [if_neg (by assumption),if_neg (by omega),if_pos (by omega)])⟩
 ·exact⟨rfl,Imp.num (by unfold pchk;rw [if_neg (by assumption),if_neg (by omega),if_pos (by omega)])⟩
 have hk:pchk n l=open Classical in if∀d∈l,DmOK d then 0 else 2:=by unfold pchk;rw [if_neg (by assumption),if_neg (by omega),if_neg (by omega)]
 refine LoopOb.mk (Y:=Nat) (st:=fun i=>⟨[(30,i64 i),(29,i64 l.length),(28,dml l),(4,i64 0)],[]⟩)
  (inv:=fun i=>i≤l.length∧∀j<i,DmOK (l.getD j dm0)) (fun i=>l.length-i) 0 [] ⟨by omega,fun j hj=>absurd hj (by omega)⟩ (by rw [hll];(exact aL)) ?_
 rintro i ⟨hi,hv⟩
 (repeat' (conv=>whnf);first|refine z1_Y1 ?_|fail);all_goals try (conv=>whnf)
 refine CondOb.mk (fun hlt=>?_) (fun hlt=>?_)
 ·have hil:i<l.length:=by omega
  have hg:=dml_get hil
  have hno:¬DmOK (l.getD i dm0)→pchk n l=2:=fun h=>by rw [hk,if_neg];exact fun k=>h (k _ (Go.Np.getD_in hil))
  have hyes:DmOK (l.getD i dm0)→∀j<i+1,DmOK (l.getD j dm0):=fun h j hj=>by
   by_cases e:j=i
   ·subst e;exact h
   ·exact hv j (by omega)
  unfold DmOK at hno hyes
  generalize l.getD i dm0=d at*
  (repeat' (conv=>whnf);first|refine⟨i,_,rfl,hg,?_⟩|refine aC ?_ ?_<;>intro<;>try omega|refine z1_Y1 ?_|fail);all_goals try (conv=>whnf)
  all_goals first
   |exact⟨rfl,Imp.num (by rw [hno (by omega)])⟩
   |exact⟨i+1,[],⟨by omega,hyes (by omega)⟩,by omega,by(exact aL)⟩
   |skip
 ·(repeat' (conv=>whnf);first|refine aC ?_ ?_<;>intro _|refine z1_Y1 ?_|fail);all_goals try (conv=>whnf)
  refine⟨rfl,Imp.num ?_⟩
  rw [hk,if_pos]
  intro d hd
  obtain⟨j,hj,rfl⟩:=List.getElem_of_mem hd
  have:=hv j (by omega)
  rw [List.getD_eq_getElem?_getD,List.getElem?_eq_getElem hj]at this;exact this
end
end Go.Proofs.YtbcjojomkibgeaaGreat
