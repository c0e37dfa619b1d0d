/- Lemmas of this seat. Conditions: as stated. -/
import Derived.Test.YtjhmjiimpmmnhaaGreatMs
set_option linter.unusedVariables false
set_option linter.unusedSimpArgs false
section
namespace Go.Mc
open Go.Pk Go.Np
def pfl (n:Nt) (x:Pk):Fl:=n.fl.getD x.f.toNat fl0
def bdP (n:Nt) (x:Pk):Prop:=(x.f<0∨(n.fl.length:Int)≤x.f∨x.t<0∨380<x.t)∨x.s<(pfl n x).lo ∨(pfl n x).hi <x.s
instance (n:Nt) (x:Pk):Decidable (bdP n x):=inferInstanceAs (Decidable (_∨_))
def sckN (n:Nt) (p:List Pk):Nat→Int
 |0=>0
 |i+1=>if sckN n p i≠0 then sckN n p i else if bdP n (p.getD i pk0)then 2 else if(p.getD i pk0).t <lst p i then 7 else 0
noncomputable def sck (n:Nt) (p:List Pk):Int:=if chkN n≠0 then 6 else if 60<p.length then 3 else sckN n p p.length
theorem sckN_ge {n : Nt} {p : List Pk} {i : Nat} : ∀ {m : Nat}, i ≤ m → sckN n p i ≠ 0 → sckN n p m = sckN n p i
  | 0, h, _ => by have : i = 0 := by omega
                  subst this; rfl
  | m + 1, h, hn => by
    by_cases e : i = m + 1
    · subst e; rfl
    · have := sckN_ge (n := n) (p := p) (i := i) (m := m) (by omega) hn
      simp only [sckN]; rw [if_pos (by rw [this]; exact hn), this]
theorem sckN_zero {n:Nt} {p:List Pk}:∀{m:Nat},sckN n p m=0↔∀i,i<m→¬bdP n (p.getD i pk0)∧lst p i≤(p.getD i pk0).t
 |0=>by simp [sckN]
 |m+1=>by
  have ih:=sckN_zero (n:=n) (p:=p) (m:=m)
  simp only [sckN]
  constructor
  ·intro h
   split at h
   ·exact absurd h (by assumption)
   ·rename_i h0
    split at h
    ·cases h
    ·split at h
     ·cases h
     ·rename_i h1 h2
      intro i hi
      by_cases e:i=m
      ·subst e;exact⟨h1,by omega⟩
      ·exact ih.1 (by omega) i (by omega)
  ·intro h
   have h0:=ih.2 fun i hi=>h i (by omega)
   rw [if_neg (by omega),if_neg (h m (by omega)).1,if_neg (by have:=(h m (by omega)).2;omega)]
structure SkP (n:Nt) (p:List Pk):Prop where
 h:chkN n=0
 l:p.length≤60
 g:∀i,i<p.length→¬bdP n (p.getD i pk0)
 o:∀i,i<p.length→lst p i≤(p.getD i pk0).t
theorem sck_zero {n:Nt} {p:List Pk}:sck n p=0↔SkP n p:=by
 unfold sck
 constructor
 ·intro h
  split at h
  ·cases h
  ·split at h
   ·cases h
   ·rename_i hn hl
    have:=sckN_zero.1 h
    exact⟨by omega,by omega,fun i hi=>(this i hi).1,fun i hi=>(this i hi).2⟩
 ·rintro⟨h0,h1,h2,h3⟩
  rw [if_neg (by omega),if_neg (by omega),sckN_zero]
  exact fun i hi=>⟨h2 i hi,h3 i hi⟩
def hps (n:Nt) (p:List Pk) (k:Int):Int:=
 if k<0∨(p.length:Int)≤k∨(p.getD k.toNat pk0).f <0∨(n.fl.length:Int)≤(p.getD k.toNat pk0).f then 0 else((pfl n (p.getD k.toNat pk0)).rt.length :Nat)
def toF (n:Nt) (p:List Pk):Tf where
 np:=p.length
 rt:=fun i=>(pfl n (p.getD i pk0)).rt.map Int.toNat
 fl:=fun i=>(p.getD i pk0).f
 cs:=fun i=>(pfl n (p.getD i pk0)).cl
 t:=fun i=>(p.getD i pk0).t
 s:=fun i=>(p.getD i pk0).s
def dR (ms:List (List Int)):Tp:=fun i h=>(ms.getD i []).getD h (-1)
def arO (n:Nt) (p:List Pk) (D:Tp) (k h:Int):Option Int:=if h<0∨hps n p k≤h then none else arr (toF n p) D k.toNat h.toNat
theorem arO_neg {n:Nt} {p:List Pk} {D:Tp} {k h:Int} (e:h<0∨hps n p k≤h):arO n p D k h=none:=if_pos e
theorem arO_zero {n:Nt} {p:List Pk} {D:Tp} {k:Int} (e:¬((0:Int)<0∨hps n p k≤0)):arO n p D k 0=some (p.getD k.toNat pk0).t :=by
 unfold arO;rw [if_neg e];rfl
theorem arO_pos {n:Nt} {p:List Pk} {D:Tp} {k h:Int} (e:¬(h<0∨hps n p k≤h)) (h0:h≠0):arO n p D k h=if∀j,j<h.toNat→0≤D k.toNat j then some (D k.toNat (h.toNat-1)+1)else none:=by
 unfold arO arr;rw [if_neg e,if_neg (by omega)]
end Go.Mc
end
section
namespace Go.Mc
open Go.Pk Go.Np
theorem idx_nat {l:Nat}:∀{rt:List Int},(∀x∈rt,0≤x)→(rt.map Int.toNat).idxOf l=rt.idxOf (l:Int)∧(l∈rt.map Int.toNat↔(l:Int)∈rt)
 |[],_=>by simp
 |x::rt,h=>by
  obtain⟨h1,h2⟩:=idx_nat (l:=l) (rt:=rt) fun y hy=>h y (by simp [hy])
  have hx:=h x (by simp)
  by_cases e:x=(l:Int)
  ·subst e;simp
  ·have e2:¬x.toNat=l:=by omega
   refine⟨?_,?_⟩
   ·rw [List.map_cons,List.idxOf_cons,List.idxOf_cons,h1]
    have b1:(x.toNat==l)=false:=by simp [e2]
    have b2:(x==(l:Int))=false:=by simp [e]
    rw [b1,b2]
   ·rw [List.map_cons,List.mem_cons,List.mem_cons,h2]
    constructor
    ·rintro(h|h)
     ·exact absurd h.symm e2
     ·exact .inr h
    ·rintro(h|h)
     ·exact absurd h.symm e
     ·exact .inr h
structure RtP (n:Nt) (p:List Pk):Prop where
 f:∀i,i<p.length→0≤(p.getD i pk0).f ∧(p.getD i pk0).f <n.fl.length
 r:∀i,i<p.length→∀x∈(pfl n (p.getD i pk0)).rt,0≤x
theorem hop_hp {n:Nt} {p:List Pk} (hR:RtP n p) {i l:Nat} (hi:i<p.length):hop n (p.getD i pk0).f l=match hp (toF n p) l i with
  |some h=>(h:Int)
  |none=> -1:=by
 obtain⟨f1,f2⟩:=hR.f i hi
 obtain⟨h1,h2⟩:=idx_nat (l:=l) (hR.r i hi)
 unfold hop hp
 rw [if_neg (by omega)]
 show(if(l:Int)∈(pfl n (p.getD i pk0)).rt then(((pfl n (p.getD i pk0)).rt.idxOf (l:Int):Nat):Int)else-1)=_
 by_cases hm:(l:Int)∈(pfl n (p.getD i pk0)).rt
 ·rw [if_pos hm,if_pos (show l∈(toF n p).rt i from h2.2 hm)]
  show _=((((pfl n (p.getD i pk0)).rt.map Int.toNat).idxOf l:Nat):Int)
  rw [h1]
 ·rw [if_neg hm,if_neg (show¬l∈(toF n p).rt i from fun h=>hm (h2.1 h))]
theorem hop_neg {n:Nt} {p:List Pk} (hR:RtP n p) {i:Nat} {l:Int} (hl:l<0) (hi:i<p.length):hop n (p.getD i pk0).f l= -1:=by
 obtain⟨f1,f2⟩:=hR.f i hi
 unfold hop
 rw [if_neg (by omega),if_neg fun hm=>by have:=hR.r i hi l hm;omega]
def arL (n:Nt) (p:List Pk) (D:Tp) (l:Int) (i:Nat):Option Int:=if l<0 then none else match hp (toF n p) l.toNat i with
 |some h=>arr (toF n p) D i h
 |none=>none
theorem arO_arL {n:Nt} {p:List Pk} (hR:RtP n p) {D:Tp} {l:Int} {i:Nat} (hi:i<p.length):arO n p D i (hop n (p.getD i pk0).f l)=arL n p D l i:=by
 obtain⟨f1,f2⟩:=hR.f i hi
 unfold arL
 by_cases hl:l<0
 ·rw [if_pos hl,hop_neg hR hl hi,arO_neg (.inl (by omega))]
 ·rw [if_neg hl]
  obtain⟨l,rfl⟩:∃k:Nat,l=k:=⟨l.toNat,by omega⟩
  rw [hop_hp hR hi,Int.toNat_natCast]
  cases hh:hp (toF n p) l i with
  |none=>exact arO_neg (.inl (by simp only;omega))
  |some h=>
   have h1:=hp_some hh
   have h2:h<(pfl n (p.getD i pk0)).rt.length :=by simpa [toF]using h1.1
   have h3:hps n p i=((pfl n (p.getD i pk0)).rt.length :Nat):=by
    unfold hps
    rw [Int.toNat_natCast,if_neg (by omega)]
   simp only
   unfold arO
   rw [h3,if_neg (by omega),Int.toNat_natCast,Int.toNat_natCast]
noncomputable def quL (n:Nt) (p:List Pk) (D:Tp) (l:Int):Nat→List Wt
 |0=>[]
 |i+1=>match arL n p D l i with
  |none=>quL n p D l i
  |some a=>insW ⟨a,(p.getD i pk0).f,i⟩ (quL n p D l i)
theorem quL_nat {n:Nt} {p:List Pk} {D:Tp} {l:Nat}:∀i,quL n p D l i=quN (toF n p) D l i
 |0=>rfl
 |i+1=>by
  simp only [quL,quN,quL_nat i]
  unfold arL
  rw [if_neg (by omega),Int.toNat_natCast]
  cases hp (toF n p) l i with
  |none=>rfl
  |some h=>rfl
theorem quL_neg {n:Nt} {p:List Pk} {D:Tp} {l:Int} (h:l<0):∀i,quL n p D l i=[]
 |0=>rfl
 |i+1=>by
  simp only [quL,quL_neg h i]
  unfold arL
  rw [if_pos h]
theorem quL_ok {n:Nt} {p:List Pk} {D:Tp} {l:Int} (i:Nat):(quL n p D l i).Pairwise Wt.lt∧∀x∈quL n p D l i,x.i<i:=by
 by_cases h:l<0
 ·rw [quL_neg h];exact⟨List.Pairwise.nil,fun x hx=>by simp at hx⟩
 ·obtain⟨l,rfl⟩:∃k:Nat,l=k:=⟨l.toNat,by omega⟩
  rw [quL_nat]
  obtain⟨h1,h2⟩:=quN_ok (toF n p) D l i
  exact⟨h1,fun x hx=>((h2 x).1 hx).1⟩
theorem quL_len {n:Nt} {p:List Pk} {D:Tp} {l:Int}:∀(i:Nat),(quL n p D l i).length ≤i
 |0=>by simp [quL]
 |i+1=>by
  have ih:=quL_len (n:=n) (p:=p) (D:=D) (l:=l) i
  have hin:∀(x:Wt) (q:List Wt),(insW x q).length =q.length+1:=by
   intro x q
   induction q with
   |nil=>rfl
   |cons y q ih=>simp only [insW];split<;>simp [ih]
  simp only [quL]
  cases arL n p D l i with
  |none=>simp only;omega
  |some a=>simp only [hin];omega
end Go.Mc
end
section
namespace Go.Mc
open Go.Pk Go.Np
def arQ (n:Nt) (p:List Pk) (D:Tp) (l:Int):Nat→List Wt
 |0=>[]
 |i+1=>match arL n p D l i with
  |none=>arQ n p D l i
  |some a=>arQ n p D l i++[⟨a,(p.getD i pk0).f,i⟩]
theorem arQ_mem {n:Nt} {p:List Pk} {D:Tp} {l:Int} {x:Wt}:∀{i:Nat},x∈arQ n p D l i↔x.i<i∧x.f=(p.getD x.i pk0).f ∧arL n p D l x.i=some x.a
 |0=>by simp [arQ]
 |i+1=>by
  have ih:=arQ_mem (n:=n) (p:=p) (D:=D) (l:=l) (x:=x) (i:=i)
  simp only [arQ]
  cases ha:arL n p D l i with
  |none=>
   simp only
   rw [ih]
   constructor
   ·rintro⟨h1,h2⟩;exact⟨by omega,h2⟩
   ·rintro⟨h1,h2,h3⟩
    refine⟨?_,h2,h3⟩
    rcases Nat.lt_succ_iff_lt_or_eq.1 h1 with h|h
    ·exact h
    ·rw [h,ha]at h3;cases h3
  |some a=>
   simp only
   rw [List.mem_append,ih,List.mem_singleton]
   constructor
   ·rintro(⟨h1,h2⟩|rfl)
    ·exact⟨by omega,h2⟩
    ·exact⟨by simp,rfl,ha⟩
   ·rintro⟨h1,h2,h3⟩
    rcases Nat.lt_succ_iff_lt_or_eq.1 h1 with h|h
    ·exact .inl ⟨h,h2,h3⟩
    ·refine .inr ?_
     rw [h,ha]at h3
     rw [h]at h2
     exact Wt.ext' (Option.some.inj h3).symm h2 h
theorem quL_mem {n:Nt} {p:List Pk} {D:Tp} {l:Int} {x:Wt}:∀{i:Nat},x∈quL n p D l i↔x.i<i∧x.f=(p.getD x.i pk0).f ∧arL n p D l x.i=some x.a
 |0=>by simp [quL]
 |i+1=>by
  have ih:=quL_mem (n:=n) (p:=p) (D:=D) (l:=l) (x:=x) (i:=i)
  simp only [quL]
  cases ha:arL n p D l i with
  |none=>
   simp only
   rw [ih]
   constructor
   ·rintro⟨h1,h2⟩;exact⟨by omega,h2⟩
   ·rintro⟨h1,h2,h3⟩
    refine⟨?_,h2,h3⟩
    rcases Nat.lt_succ_iff_lt_or_eq.1 h1 with h|h
    ·exact h
    ·rw [h,ha]at h3;cases h3
  |some a=>
   simp only
   rw [insW_mem,ih]
   constructor
   ·rintro(rfl|⟨h1,h2⟩)
    ·exact⟨by simp,rfl,ha⟩
    ·exact⟨by omega,h2⟩
   ·rintro⟨h1,h2,h3⟩
    rcases Nat.lt_succ_iff_lt_or_eq.1 h1 with h|h
    ·exact .inr ⟨h,h2,h3⟩
    ·refine .inl ?_
     rw [h,ha]at h3
     rw [h]at h2
     exact Wt.ext' (Option.some.inj h3).symm h2 h
theorem arQ_nodup {n:Nt} {p:List Pk} {D:Tp} {l:Int}:∀i,(arQ n p D l i).Nodup
 |0=>by simp [arQ]
 |i+1=>by
  simp only [arQ]
  cases ha:arL n p D l i with
  |none=>exact arQ_nodup i
  |some a=>
   simp only
   rw [List.nodup_append]
   refine⟨arQ_nodup i,by simp,fun x hx y hy=>?_⟩
   rw [List.mem_singleton]at hy
   have:=(arQ_mem.1 hx).1
   rintro rfl
   rw [hy]at this
   simp at this
theorem arQ_len {n:Nt} {p:List Pk} {D:Tp} {l:Int}:∀i,(arQ n p D l i).length ≤i
 |0=>by simp [arQ]
 |i+1=>by
  have:=arQ_len (n:=n) (p:=p) (D:=D) (l:=l) i
  simp only [arQ]
  cases arL n p D l i with
  |none=>simp only;omega
  |some a=>simp only [List.length_append,List.length_singleton];omega
theorem sort_quL {n:Nt} {p:List Pk} {D:Tp} {l:Int} {i:Nat} {q:List Wt} (hp:q.Perm (arQ n p D l i)) (hs:q.Pairwise fun x y=>¬y.lt x):q=quL n p D l i:=by
 have hnd:q.Nodup:=hp.nodup_iff.2 (arQ_nodup i)
 refine ord_uniq ?_ (quL_ok i).1 fun x=>by rw [hp.mem_iff,arQ_mem,quL_mem]
 have:q.Pairwise fun x y=>¬y.lt x∧x≠y:=List.Pairwise.and hs hnd
 refine this.imp fun {x y} h=>?_
 rcases Wt.lt_tri x y with k|k|k
 ·exact k
 ·exact absurd k h.2
 ·exact absurd k h.1
def cmpI (x y:Int):Int:=if x<y then-1 else if y<x then 1 else 0
def cmpW (x y:Wt):Int:=if cmpI x.a y.a≠0 then cmpI x.a y.a else if cmpI x.f y.f≠0 then cmpI x.f y.f else cmpI x.i y.i
theorem cmpW_lt {x y:Wt}:cmpW x y<0↔x.lt y:=by
 unfold cmpW cmpI Wt.lt
 constructor
 ·intro h
  (repeat' split at h)<;>omega
 ·intro h
  (repeat' split)<;>omega
end Go.Mc
end
section
namespace Go.Mc
open Go.Pk Go.Np
noncomputable def nteM (F:Tf) (Z:Li) (N:Nat) (l:Nat) (ms:List (List Int)) (S:Nat→Bool):List (List Int):=
 ms.mapIdx fun i row=>row.mapIdx fun h v=>if S i=true∧hp F l i=some h then pas F Z N (dR ms) l i else v
noncomputable def pasM (F:Tf) (Z:Li) (N:Nat) (l:Nat) (ms:List (List Int)):List (List Int):=nteM F Z N l ms fun _=>true
def ChgM (F:Tf) (Z:Li) (N:Nat) (l:Nat) (ms:List (List Int)) (S:Nat→Bool):Prop:=∃i h,i<F.np∧S i=true∧hp F l i=some h∧pas F Z N (dR ms) l i≠dR ms i h
variable {F:Tf} {Z:Li} {N l:Nat} {ms:List (List Int)} {S:Nat→Bool}
theorem nte_len:(nteM F Z N l ms S).length =ms.length:=by simp [nteM]
theorem nte_row {i:Nat}:(nteM F Z N l ms S).getD i []=(ms.getD i []).mapIdx fun h v=>if S i=true∧hp F l i=some h then pas F Z N (dR ms) l i else v:=by
 unfold nteM
 rw [List.getD_eq_getElem?_getD,List.getElem?_mapIdx,List.getD_eq_getElem?_getD]
 cases ms[i]? <;>simp
theorem nte_rlen {i:Nat}:((nteM F Z N l ms S).getD i []).length =(ms.getD i []).length :=by rw [nte_row];simp
theorem nte_at {i h:Nat} (hh:h<(ms.getD i []).length):dR (nteM F Z N l ms S) i h=if S i=true∧hp F l i=some h then pas F Z N (dR ms) l i else dR ms i h:=by
 show((nteM F Z N l ms S).getD i []).getD h (-1)=if S i=true∧hp F l i=some h then pas F Z N (dR ms) l i else(ms.getD i []).getD h (-1)
 rw [nte_row]
 generalize ms.getD i []=row at hh⊢
 simp only [List.getD_eq_getElem?_getD,List.getElem?_mapIdx,List.getElem?_eq_getElem hh,Option.map_some,Option.getD_some]
theorem rows_ext {ms ms':List (List Int)} (h1:ms.length=ms'.length) (h2:∀i,(ms.getD i []).length =(ms'.getD i []).length) (h3:∀i h,i<ms.length→h<(ms.getD i []).length →dR ms i h=dR ms' i h):ms=ms':=by
 refine List.ext_getElem h1 fun i a b=>?_
 have e1:ms.getD i []=ms[i]:=by rw [List.getD_eq_getElem?_getD,List.getElem?_eq_getElem a];rfl
 have e2:ms'.getD i []=ms'[i]:=by rw [List.getD_eq_getElem?_getD,List.getElem?_eq_getElem b];rfl
 have h2:=h2 i
 have h3:=h3 i
 unfold dR at h3
 rw [e1,e2]at h2
 rw [e1,e2]at h3
 refine List.ext_getElem h2 fun h c d=>?_
 have:=h3 h a c
 rw [List.getD_eq_getElem?_getD,List.getElem?_eq_getElem c,List.getD_eq_getElem?_getD,List.getElem?_eq_getElem d]at this
 exact this
theorem nte_none (h:∀i,i<ms.length→∀k,S i=true→hp F l i≠some k):nteM F Z N l ms S=ms:=
 rows_ext nte_len (fun _=>nte_rlen) fun i k hi hk=>by
  rw [nte_len]at hi
  rw [nte_rlen]at hk
  rw [nte_at hk,if_neg fun e=>h i hi k e.1 e.2]
theorem nte_step {S':Nat→Bool} {i h:Nat} (hi:i<ms.length) (hh:hp F l i=some h) (h1:S' i=true) (h2:∀j,j≠i→S' j=S j):
  (nteM F Z N l ms S).set i (((nteM F Z N l ms S).getD i []).set h (pas F Z N (dR ms) l i))=nteM F Z N l ms S':=by
 have hi':i<(nteM F Z N l ms S).length :=by rw [nte_len];exact hi
 have er:∀(r:List Int) (j:Nat),((nteM F Z N l ms S).set i r).getD j []=if j=i then r else(nteM F Z N l ms S).getD j []:=fun r j=>by
  rw [List.getD_eq_getElem?_getD,List.getElem?_set,List.getD_eq_getElem?_getD]
  by_cases e:i=j
  ·subst e;simp [hi']
  ·rw [if_neg e,if_neg (Ne.symm e)]
 refine rows_ext (by simp [nte_len]) (fun j=>?_) fun j k hj hk=>?_
 ·rw [er]
  split
  ·rename_i e;subst e;rw [List.length_set,nte_rlen,nte_rlen]
  ·rw [nte_rlen,nte_rlen]
 ·rw [er]at hk
  unfold dR
  rw [er]
  split
  ·rename_i e
   subst e
   rw [if_pos rfl,List.length_set]at hk
   have hk2:=hk
   rw [nte_rlen]at hk2
   have:=nte_at (F:=F) (Z:=Z) (N:=N) (l:=l) (S:=S') hk2
   have h0:=nte_at (F:=F) (Z:=Z) (N:=N) (l:=l) (S:=S) hk2
   unfold dR at this h0
   rw [this,List.getD_eq_getElem?_getD,List.getElem?_set]
   by_cases e:h=k
   ·subst e;rw [if_pos rfl,if_pos hk,if_pos ⟨h1,hh⟩];rfl
   ·rw [if_neg e,←List.getD_eq_getElem?_getD,h0,if_neg fun c=>e (by have:=c.2;rw [hh]at this;exact Option.some.inj this),if_neg fun c=>e (by have:=c.2;rw [hh]at this;exact Option.some.inj this)]
  ·rename_i e
   rw [if_neg e,nte_rlen]at hk
   have:=nte_at (F:=F) (Z:=Z) (N:=N) (l:=l) (S:=S') hk
   have h0:=nte_at (F:=F) (Z:=Z) (N:=N) (l:=l) (S:=S) hk
   unfold dR at this h0
   rw [this,h0,h2 j e]
theorem nte_skip {S':Nat→Bool} {i:Nat} (hh:hp F l i=none∨S i=true) (h1:S' i=true) (h2:∀j,j≠i→S' j=S j):nteM F Z N l ms S=nteM F Z N l ms S':=
 rows_ext (by rw [nte_len,nte_len]) (fun _=>by rw [nte_rlen,nte_rlen]) fun j k hj hk=>by
  rw [nte_rlen]at hk
  rw [nte_at hk,nte_at hk]
  by_cases e:j=i
  ·subst e
   rcases hh with hh|hh
   ·rw [hh];simp
   ·rw [hh,h1]
  ·rw [h2 j e]
theorem nte_old {i h:Nat} (hh:h<(ms.getD i []).length) (hS:S i=false):dR (nteM F Z N l ms S) i h=dR ms i h:=by
 rw [nte_at hh,if_neg];rintro⟨e,_⟩;rw [hS]at e;cases e
theorem chg_step {S':Nat→Bool} {i h:Nat} (hi:i<F.np) (hh:hp F l i=some h) (h1:S' i=true) (h2:∀j,j≠i→S' j=S j):ChgM F Z N l ms S'↔ChgM F Z N l ms S∨pas F Z N (dR ms) l i≠dR ms i h:=by
 constructor
 ·rintro⟨j,k,a,b,c,d⟩
  by_cases e:j=i
  ·subst e
   have:h=k:=by rw [hh]at c;exact Option.some.inj c
   subst this
   exact .inr d
  ·exact .inl ⟨j,k,a,by rw [←h2 j e];exact b,c,d⟩
 ·rintro(⟨j,k,a,b,c,d⟩|h)
  ·refine⟨j,k,a,?_,c,d⟩
   by_cases e:j=i
   ·subst e;exact h1
   ·rw [h2 j e];exact b
  ·exact⟨i,_,hi,h1,hh,h⟩
theorem chg_skip {S':Nat→Bool} {i:Nat} (hh:hp F l i=none∨S i=true) (h1:S' i=true) (h2:∀j,j≠i→S' j=S j):ChgM F Z N l ms S'↔ChgM F Z N l ms S:=by
 constructor
 ·rintro⟨j,k,a,b,c,d⟩
  by_cases e:j=i
  ·subst e
   rcases hh with hh|hh
   ·rw [hh]at c;cases c
   ·exact⟨j,k,a,hh,c,d⟩
  ·exact⟨j,k,a,by rw [←h2 j e];exact b,c,d⟩
 ·rintro⟨j,k,a,b,c,d⟩
  refine⟨j,k,a,?_,c,d⟩
  by_cases e:j=i
  ·subst e;exact h1
  ·rw [h2 j e];exact b
structure ShM (F:Tf) (N:Nat) (ms:List (List Int)):Prop where
 l:ms.length=F.np
 r:∀i,i<F.np→(ms.getD i []).length =(F.rt i).length
 b:∀i h,i<F.np→h<(F.rt i).length →-1≤dR ms i h∧dR ms i h<N
theorem pasM_sh (h:ShM F N ms):ShM F N (pasM F Z N l ms):=
 ⟨by rw [pasM,nte_len,h.l],fun i hi=>by rw [pasM,nte_rlen,h.r i hi],fun i k hi hk=>by
  rw [pasM,nte_at (by rw [h.r i hi];exact hk)]
  split
  ·rcases pas_bd F Z N (dR ms) l i with e|⟨e1,e2,_⟩
   ·have:=h.b i k hi hk
    omega
   ·omega
  ·exact h.b i k hi hk⟩
theorem pasM_at (hR:Rts F) (hr:∀i,i<F.np→(ms.getD i []).length =(F.rt i).length) {i k:Nat} (hi:i<F.np) (hk:k<(F.rt i).length):dR (pasM F Z N l ms) i k=if lin F i k=l then pas F Z N (dR ms) l i else dR ms i k:=by
 rw [pasM,nte_at (by rw [hr i hi];exact hk)]
 by_cases e:lin F i k=l
 ·rw [if_pos e,if_pos ⟨rfl,by rw [←e];exact hp_lin hR hi hk⟩]
 ·rw [if_neg e,if_neg fun c=>e (hp_some c.2).2]
noncomputable def trR (F:Tf) (Z:Li) (N:Nat):List (List Int):=(List.range F.np).map fun i=>(List.range (F.rt i).length).map fun h=>tr F Z N i h
theorem trR_at {i h:Nat} (hi:i<F.np) (hh:h<(F.rt i).length):dR (trR F Z N) i h=tr F Z N i h:=by
 unfold dR trR
 simp [List.getD_eq_getElem?_getD,hi,hh]
theorem trR_rlen {i:Nat} (hi:i<F.np):((trR F Z N).getD i []).length =(F.rt i).length :=by
 unfold trR
 simp [List.getD_eq_getElem?_getD,hi]
theorem trR_len:(trR F Z N).length =F.np:=by simp [trR]
theorem trR_eq (hl:ms.length=F.np) (hr:∀i,i<F.np→(ms.getD i []).length =(F.rt i).length) (e:∀i k,i<F.np→k<(F.rt i).length →dR ms i k=tr F Z N i k):ms=trR F Z N:=
 rows_ext (by rw [trR_len,hl]) (fun i=>by
  by_cases hi:i<F.np
  ·rw [trR_rlen hi,hr i hi]
  ·rw [List.getD_eq_getElem?_getD,List.getElem?_eq_none (by rw [hl];omega),List.getD_eq_getElem?_getD,List.getElem?_eq_none (by rw [trR_len];omega)]) fun i k hi hk=>by
  rw [hl]at hi
  rw [hr i hi]at hk
  rw [e i k hi hk,trR_at hi hk]
def AgL (F:Tf) (Z:Li) (N k l:Nat) (D:Tp):Prop:=∀i h,i<F.np→h<(F.rt i).length →Av (if lin F i h<l then k+1 else k) (D i h) (tr F Z N i h)
theorem AgL.ag {k l:Nat} {D:Tp} (h:AgL F Z N k l D):Ag F k D (tr F Z N):=fun i h1 a b=>(h i h1 a b).le (by split<;>omega)
theorem AgL.step (hR:Rts F) {k l:Nat} (hS:ShM F N ms) (h:AgL F Z N k l (dR ms)):AgL F Z N k (l+1) (dR (pasM F Z N l ms)):=by
 intro i j hi hj
 rw [pasM_at hR hS.r hi hj]
 by_cases e:lin F i j=l
 ·rw [if_pos e,if_pos (by omega),←e]
  exact tr_step hR Z h.ag hi hj
 ·rw [if_neg e]
  have:=h i j hi hj
  by_cases c:lin F i j<l
  ·rw [if_pos (by omega)];rw [if_pos c]at this;exact this
  ·rw [if_neg (by omega)];rw [if_neg c]at this;exact this
theorem AgL.zero {k:Nat} {D:Tp} (h:Ag F k D (tr F Z N)):AgL F Z N k 0 D:=fun i j hi hj=>by rw [if_neg (by omega)];exact h i j hi hj
def LnP (F:Tf) (Z:Li):Prop:=∀i h,i<F.np→h<(F.rt i).length →lin F i h<Z.n
theorem AgL.done {k:Nat} {D:Tp} (hL:LnP F Z) (h:AgL F Z N k Z.n D):Ag F (k+1) D (tr F Z N):=fun i j hi hj=>by have:=h i j hi hj;rw [if_pos (hL i j hi hj)]at this;exact this
theorem ag_end (hR:Rts F) {k:Nat} (hk:N≤k) (hS:ShM F N ms) (h:Ag F k (dR ms) (tr F Z N)):ms=trR F Z N:=by
 refine trR_eq hS.l hS.r fun i j hi hj=>?_
 have h1:=h i j hi hj
 have h2:=hS.b i j hi hj
 rcases tr_bd hR Z N hi hj with e|⟨e1,e2,_⟩
 ·by_cases c:0≤dR ms i j
  ·exact h1 (.inl ⟨c,by omega⟩)
  ·omega
 ·exact h1 (.inr ⟨e1,by omega⟩)
theorem pasM_same (hR:Rts F) (hl:ms.length=F.np) (hr:∀i,i<F.np→(ms.getD i []).length =(F.rt i).length) (h:¬ChgM F Z N l ms fun _=>true):pasM F Z N l ms=ms:=
 rows_ext (by rw [pasM,nte_len]) (fun _=>by rw [pasM,nte_rlen]) fun i j hi hj=>by
  rw [pasM,nte_len,hl]at hi
  rw [pasM,nte_rlen,hr i hi]at hj
  rw [pasM_at hR hr hi hj]
  split
  ·rename_i e
   refine Classical.byContradiction fun hne=>h ⟨i,j,hi,rfl,?_,hne⟩
   rw [←e];exact hp_lin hR hi hj
  ·rfl
theorem con_end (hR:Rts F) (hL:LnP F Z) (hl:ms.length=F.np) (hr:∀i,i<F.np→(ms.getD i []).length =(F.rt i).length) (h:∀l,l<Z.n→¬ChgM F Z N l ms fun _=>true):ms=trR F Z N:=by
 have hC:Con F Z N (dR ms):=fun i j hi hj=>by
  refine Classical.byContradiction fun hne=>h (lin F i j) (hL i j hi hj) ⟨i,j,hi,rfl,hp_lin hR hi hj,fun e=>hne e.symm⟩
 exact trR_eq hl hr fun i j hi hj=>tr_uniq hR Z hC i j hi hj
theorem tr_fix (hR:Rts F):¬ChgM F Z N l (trR F Z N) fun _=>true:=by
 rintro⟨i,h,hi,_,hh,hne⟩
 obtain⟨h1,h2⟩:=hp_some hh
 have hS:Same F (dR (trR F Z N)) (tr F Z N) l N:=same_of (fun i j hi hj=>by rw [trR_at hi hj];exact Av.refl) (tr_mon hR Z N) l
 rw [trR_at hi h1,pas_end ((pas_same (N:=N) hS i).le (Nat.le_succ N)),tr_con hR Z N i h hi h1,h2]at hne
 exact hne rfl
theorem trR_sh (hR:Rts F):ShM F N (trR F Z N):=
 ⟨trR_len,fun i hi=>trR_rlen hi,fun i h hi hh=>by
  rw [trR_at hi hh]
  rcases tr_bd hR Z N hi hh with e|⟨e1,e2,_⟩<;>omega⟩
end Go.Mc
end
