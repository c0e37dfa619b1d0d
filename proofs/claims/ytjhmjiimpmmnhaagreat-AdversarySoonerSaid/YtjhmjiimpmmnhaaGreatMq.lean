/- Lemmas of this seat. Conditions: as stated. -/
import Derived.Test.YtjhmjiimpmmnhaaGreatMs
import Derived.Test.YtjhmjiimpmmnhaaGreatPl
set_option linter.unusedVariables false
set_option linter.unusedSimpArgs false
section
namespace Go.Mc
open Go.Pk
def lin (F:Tf) (i h:Nat):Nat:=(F.rt i).getD h 0
def Rts (F:Tf):Prop:=∀i,i<F.np→(F.rt i).Nodup
theorem hp_lin {F:Tf} (hR:Rts F) {i h:Nat} (hi:i<F.np) (hh:h<(F.rt i).length):hp F (lin F i h) i=some h:=by
 unfold hp lin
 rw [List.getD_eq_getElem?_getD,List.getElem?_eq_getElem hh]
 simp only [Option.getD_some]
 rw [if_pos (List.getElem_mem hh),(hR i hi).idxOf_getElem]
theorem hp_some {F:Tf} {l i h:Nat} (e:hp F l i=some h):h<(F.rt i).length ∧lin F i h=l:=by
 unfold hp at e
 split at e
 ·rename_i hm
  simp only [Option.some.injEq]at e
  have h1:=List.idxOf_lt_length_iff.2 hm
  subst e
  refine⟨h1,?_⟩
  unfold lin
  rw [List.getD_eq_getElem?_getD,List.getElem?_eq_getElem h1]
  simp
 ·cases e
def Ag (F:Tf) (T:Nat) (D D':Tp):Prop:=∀i h,i<F.np→h<(F.rt i).length →Av T (D i h) (D' i h)
def Mon (F:Tf) (D:Tp):Prop:=∀i h,i<F.np→h+1<(F.rt i).length →0≤D i (h+1)→0≤D i h∧D i h<D i (h+1)
theorem Mon.lt {F:Tf} {D:Tp} (hD:Mon F D) {i:Nat} (hi:i<F.np):∀{h:Nat},h<(F.rt i).length →0≤D i h→∀j,j<h→0≤D i j∧D i j<D i h
 |0,_,_,j,hj=>by omega
 |h+1,hh,h0,j,hj=>by
  have h1:=hD i h hi hh h0
  by_cases e:j=h
  ·subst e;exact h1
  ·have:=Mon.lt hD hi (h:=h) (by omega) h1.1 j (by omega)
   exact⟨this.1,by omega⟩
theorem same_of {F:Tf} {T:Nat} {D E:Tp} (hA:Ag F T D E) (hE:Mon F E) (l:Nat):Same F D E l T:=by
 intro i h a hi hh ha
 obtain⟨hl,_⟩:=hp_some hh
 unfold arr
 by_cases h0:h=0
 ·rw [if_pos h0,if_pos h0]
 ·rw [if_neg h0,if_neg h0]
  obtain⟨k,rfl⟩:∃k,h=k+1:=⟨h-1,by omega⟩
  rw [Nat.add_sub_cancel]
  constructor
  ·intro e
   split at e
   ·rename_i hall
    simp only [Option.some.injEq]at e
    have h1:=hall k (by omega)
    have h2:=hA i k hi (by omega) (.inl ⟨h1,by omega⟩)
    have h3:∀j,j<k+1→0≤E i j:=fun j hj=>by
     by_cases e2:j=k
     ·subst e2;omega
     ·exact(hE.lt hi (h:=k) (by omega) (by omega) j (by omega)).1
    rw [if_pos h3,←h2,e]
   ·cases e
  ·intro e
   split at e
   ·rename_i hall
    simp only [Option.some.injEq]at e
    have h1:=hall k (by omega)
    have h3:∀j,j<k+1→D i j=E i j:=fun j hj=>by
     have h4:=hall j hj
     have h5:E i j<T:=by
      by_cases e2:j=k
      ·subst e2;omega
      ·have:=(hE.lt hi (h:=k) (by omega) h1 j (by omega)).2;omega
     exact hA i j hi (by omega) (.inr ⟨h4,h5⟩)
    rw [if_pos (fun j hj=>by rw [h3 j hj];exact hall j hj),h3 k (by omega),e]
   ·cases e
theorem pas_bd (F:Tf) (Z:Li) (N:Nat) (D:Tp) (l i:Nat):pas F Z N D l i= -1∨(0≤pas F Z N D l i∧pas F Z N D l i<N∧i<F.np∧∃h a,hp F l i=some h∧arr F D i h=some a∧a≤pas F Z N D l i):=by
 unfold pas
 cases hp:plc (qu F D l) i with
 |none=>exact .inl rfl
 |some k=>
  simp only
  have hq:=qu_ok F D l
  obtain⟨hk,hki⟩:=plc_some hp
  rcases(run_inv (C:=Z.C l) (c:=Z.c l) (pkq_asc (F:=F) hq.o) N).d k with h|⟨_,h1,h2,h3⟩
  ·exact .inl h
  ·obtain⟨m1,⟨h,m2,m3⟩,_⟩:=(hq.m _).1 (List.getElem_mem hk)
   rw [hki]at m1 m2 m3
   unfold tm at h1
   rw [pkq_at hk]at h1
   exact .inr ⟨h2,h3,m1,h,_,m2,m3,h1⟩
def cut (T:Nat) (x:Int):Int:=if 0≤x∧x<T then x else-1
theorem cut_av {T:Nat} {x y:Int} (h:Av T x y):cut T x=cut T y:=by
 unfold cut
 by_cases h1:0≤x∧x<T
 ·have:=h (.inl h1);subst this;rfl
 ·by_cases h2:0≤y∧y<T
  ·have:=h (.inr h2);subst this;rfl
  ·rw [if_neg h1,if_neg h2]
theorem cut_nonneg {T:Nat} {x:Int} (h:0≤cut T x):cut T x=x∧0≤x∧x<T:=by
 unfold cut at*
 split at h
 ·rename_i k;rw [if_pos k];exact⟨rfl,k⟩
 ·omega
noncomputable def trE (F:Tf) (Z:Li) (N:Nat):Nat→Tp
 |0=>fun _ _=> -1
 |k+1=>fun i h=>cut (k+1) (pas F Z N (trE F Z N k) (lin F i h) i)
theorem ag_cut {F:Tf} {T:Nat} {D E:Tp} (h:∀i k,i<F.np→k<(F.rt i).length →D i k=cut T (E i k)):Ag F T D E:=by
 intro i k hi hk
 rw [h i k hi hk]
 intro h1
 rcases h1 with h1|h1
 ·exact(cut_nonneg h1.1).1
 ·unfold cut;rw [if_pos h1]
theorem trE_ok {F:Tf} (hR:Rts F) (Z:Li) (N:Nat):∀k,(∀i h,i<F.np→h<(F.rt i).length →trE F Z N k i h=cut k (trE F Z N (k+1) i h))∧Mon F (trE F Z N (k+1)):=by
 intro k
 have mono:∀k,(∀i h,i<F.np→h<(F.rt i).length →trE F Z N k i h=cut k (trE F Z N (k+1) i h))→Mon F (trE F Z N (k+1)):=by
  intro k hb i h hi hh h0
  have e1:trE F Z N (k+1) i (h+1)=cut (k+1) (pas F Z N (trE F Z N k) (lin F i (h+1)) i):=rfl
  rw [e1]at h0⊢
  obtain⟨c1,c2,c3⟩:=cut_nonneg h0
  rw [c1]
  rcases pas_bd F Z N (trE F Z N k) (lin F i (h+1)) i with p|⟨_,_,_,h',a,p1,p2,p3⟩
  ·omega
  ·rw [hp_lin hR hi hh]at p1
   simp only [Option.some.injEq]at p1
   subst p1
   unfold arr at p2
   rw [if_neg (by omega)]at p2
   split at p2
   ·rename_i hall
    simp only [Option.some.injEq,Nat.add_sub_cancel]at p2
    have h2:=hall h (by omega)
    have h3:=hb i h hi (by omega)
    rw [h3]at h2 p2
    obtain⟨d1,d2,d3⟩:=cut_nonneg h2
    exact⟨d2,by omega⟩
   ·cases p2
 induction k with
 |zero=>
  have hb:∀i h,i<F.np→h<(F.rt i).length →trE F Z N 0 i h=cut 0 (trE F Z N (0+1) i h):=fun i h _ _=>by
   unfold cut;rw [if_neg (by omega)];rfl
  exact⟨hb,mono 0 hb⟩
 |succ k ih=>
  have hb:∀i h,i<F.np→h<(F.rt i).length →trE F Z N (k+1) i h=cut (k+1) (trE F Z N (k+1+1) i h):=fun i h hi hh=>by
   have e1:trE F Z N (k+1) i h=cut (k+1) (pas F Z N (trE F Z N k) (lin F i h) i):=rfl
   have e2:trE F Z N (k+1+1) i h=cut (k+1+1) (pas F Z N (trE F Z N (k+1)) (lin F i h) i):=rfl
   have hs:=pas_same (Z:=Z) (N:=N) (same_of (ag_cut ih.1) ih.2 (lin F i h)) i
   rw [e1,e2,cut_av hs]
   generalize pas F Z N (trE F Z N (k+1)) (lin F i h) i=x
   unfold cut
   by_cases h1:0≤x∧x<(k+1:Nat)
   ·rw [if_pos h1,if_pos (show 0≤x∧x<(k+1+1:Nat)by omega),if_pos h1]
   ·rw [if_neg h1]
    by_cases h2:0≤x∧x<(k+1+1:Nat)
    ·rw [if_pos h2,if_neg h1]
    ·rw [if_neg h2,if_neg (by omega)]
  exact⟨hb,mono (k+1) hb⟩
noncomputable def tr (F:Tf) (Z:Li) (N:Nat):Tp:=trE F Z N N
def Con (F:Tf) (Z:Li) (N:Nat) (D:Tp):Prop:=∀i h,i<F.np→h<(F.rt i).length →D i h=pas F Z N D (lin F i h) i
theorem tr_con {F:Tf} (hR:Rts F) (Z:Li) (N:Nat):Con F Z N (tr F Z N):=by
 intro i h hi hh
 have h1:=(trE_ok hR Z N N).1 i h hi hh
 have e2:trE F Z N (N+1) i h=cut (N+1) (pas F Z N (trE F Z N N) (lin F i h) i):=rfl
 have h3:=pas_bd F Z N (trE F Z N N) (lin F i h) i
 unfold tr
 rw [e2]at h1
 rw [h1]
 generalize pas F Z N (trE F Z N N) (lin F i h) i=x at*
 unfold cut
 rcases h3 with rfl|⟨h4,h5,_⟩
 ·rw [if_neg (by omega)]
 ·rw [if_pos (show 0≤x∧x<(N+1:Nat)by omega),if_pos ⟨h4,h5⟩]
theorem tr_mon {F:Tf} (hR:Rts F) (Z:Li) (N:Nat):Mon F (tr F Z N):=by
 intro i h hi hh h0
 have hM:=(trE_ok hR Z N N).2
 have h1:=fun k hk=>(trE_ok hR Z N N).1 i k hi hk
 unfold tr at*
 have e1:=h1 (h+1) hh
 have e2:=h1 h (by omega)
 rw [e1]at h0⊢
 obtain⟨c1,c2,c3⟩:=cut_nonneg h0
 have h2:=hM i h hi hh c2
 rw [c1,e2]
 unfold cut
 rw [if_pos ⟨h2.1,by omega⟩]
 exact h2
theorem tr_step {F:Tf} (hR:Rts F) (Z:Li) {N k:Nat} {D:Tp} (hA:Ag F k D (tr F Z N)) {i h:Nat} (hi:i<F.np) (hh:h<(F.rt i).length):Av (k+1) (pas F Z N D (lin F i h) i) (tr F Z N i h):=by
 rw [tr_con hR Z N i h hi hh]
 exact pas_same (same_of hA (tr_mon hR Z N) _) i
theorem pas_end {F:Tf} {Z:Li} {N:Nat} {D D':Tp} {l l' i:Nat} (h:Av N (pas F Z N D l i) (pas F Z N D' l' i)):pas F Z N D l i=pas F Z N D' l' i:=by
 rcases pas_bd F Z N D l i with h1|h1
 ·rcases pas_bd F Z N D' l' i with h2|h2
  ·rw [h1,h2]
  ·exact h (.inr ⟨h2.1,h2.2.1⟩)
 ·exact h (.inl ⟨h1.1,h1.2.1⟩)
theorem tr_uniq {F:Tf} (hR:Rts F) (Z:Li) {N:Nat} {D:Tp} (hD:Con F Z N D):∀i h,i<F.np→h<(F.rt i).length →D i h=tr F Z N i h:=by
 have hA:∀k,Ag F k D (tr F Z N):=by
  intro k
  induction k with
  |zero=>intro i h _ _ hk;omega
  |succ k ih=>intro i h hi hh;rw [hD i h hi hh];exact tr_step hR Z ih hi hh
 intro i h hi hh
 have:=hA N i h hi hh
 rw [hD i h hi hh,tr_con hR Z N i h hi hh]at this⊢
 exact pas_end this
theorem tr_bd {F:Tf} (hR:Rts F) (Z:Li) (N:Nat) {i h:Nat} (hi:i<F.np) (hh:h<(F.rt i).length):tr F Z N i h= -1∨(0≤tr F Z N i h∧tr F Z N i h<N∧∃a,arr F (tr F Z N) i h=some a∧a≤tr F Z N i h):=by
 have h1:=pas_bd F Z N (tr F Z N) (lin F i h) i
 rw [←tr_con hR Z N i h hi hh]at h1
 rcases h1 with h1|⟨h1,h2,_,h',a,h3,h4,h5⟩
 ·exact .inl h1
 ·rw [hp_lin hR hi hh]at h3
  simp only [Option.some.injEq]at h3
  subst h3
  exact .inr ⟨h1,h2,a,h4,h5⟩
end Go.Mc
end
section
namespace Go.Np
open Go.Cv
def xname (i:Nat):ByteArray:=⟨#[120,(97+i).toUInt8]⟩
def yname (i:Nat):ByteArray:=⟨#[121,(97+i).toUInt8]⟩
def xs (t:Nat):List ByteArray:=(List.range t).map xname
def yf (f:Fl) (i:Nat):Fl:=⟨yname i,f.rt,f.cl,f.lo,f.hi,f.v,f.p,f.q⟩
def fr (l:List Fl) (j:Nat):List Fl:=(List.range l.length).map fun i=>if i<j then yf (l.getD i fl0) i else l.getD i fl0
end Go.Np
end
section
namespace Go.Mc
open Go.Pk Go.Np
def pfl (n:Nt) (x:Pk):Fl:=n.fl.getD x.f.toNat fl0
def bdP (n:Nt) (x:Pk):Prop:=(x.f<0∨(n.fl.length:Int)≤x.f∨x.t<0∨380<x.t)∨x.s<(pfl n x).lo ∨(pfl n x).hi <x.s
instance (n:Nt) (x:Pk):Decidable (bdP n x):=inferInstanceAs (Decidable (_∨_))
def sckN (n:Nt) (p:List Pk):Nat→Int
 |0=>0
 |i+1=>if sckN n p i≠0 then sckN n p i else if bdP n (p.getD i pk0)then 2 else if(p.getD i pk0).t <lst p i then 7 else 0
noncomputable def sck (n:Nt) (p:List Pk):Int:=if chkN n≠0 then 6 else if 60<p.length then 3 else sckN n p p.length
theorem sckN_ge {n : Nt} {p : List Pk} {i : Nat} : ∀ {m : Nat}, i ≤ m → sckN n p i ≠ 0 → sckN n p m = sckN n p i
  | 0, h, _ => by have : i = 0 := by omega
                  subst this; rfl
  | m + 1, h, hn => by
    by_cases e : i = m + 1
    · subst e; rfl
    · have := sckN_ge (n := n) (p := p) (i := i) (m := m) (by omega) hn
      simp only [sckN]; rw [if_pos (by rw [this]; exact hn), this]
theorem sckN_zero {n:Nt} {p:List Pk}:∀{m:Nat},sckN n p m=0↔∀i,i<m→¬bdP n (p.getD i pk0)∧lst p i≤(p.getD i pk0).t
 |0=>by simp [sckN]
 |m+1=>by
  have ih:=sckN_zero (n:=n) (p:=p) (m:=m)
  simp only [sckN]
  constructor
  ·intro h
   split at h
   ·exact absurd h (by assumption)
   ·rename_i h0
    split at h
    ·cases h
    ·split at h
     ·cases h
     ·rename_i h1 h2
      intro i hi
      by_cases e:i=m
      ·subst e;exact⟨h1,by omega⟩
      ·exact ih.1 (by omega) i (by omega)
  ·intro h
   have h0:=ih.2 fun i hi=>h i (by omega)
   rw [if_neg (by omega),if_neg (h m (by omega)).1,if_neg (by have:=(h m (by omega)).2;omega)]
structure SkP (n:Nt) (p:List Pk):Prop where
 h:chkN n=0
 l:p.length≤60
 g:∀i,i<p.length→¬bdP n (p.getD i pk0)
 o:∀i,i<p.length→lst p i≤(p.getD i pk0).t
theorem sck_zero {n:Nt} {p:List Pk}:sck n p=0↔SkP n p:=by
 unfold sck
 constructor
 ·intro h
  split at h
  ·cases h
  ·split at h
   ·cases h
   ·rename_i hn hl
    have:=sckN_zero.1 h
    exact⟨by omega,by omega,fun i hi=>(this i hi).1,fun i hi=>(this i hi).2⟩
 ·rintro⟨h0,h1,h2,h3⟩
  rw [if_neg (by omega),if_neg (by omega),sckN_zero]
  exact fun i hi=>⟨h2 i hi,h3 i hi⟩
def hps (n:Nt) (p:List Pk) (k:Int):Int:=
 if k<0∨(p.length:Int)≤k∨(p.getD k.toNat pk0).f <0∨(n.fl.length:Int)≤(p.getD k.toNat pk0).f then 0 else((pfl n (p.getD k.toNat pk0)).rt.length :Nat)
def toF (n:Nt) (p:List Pk):Tf where
 np:=p.length
 rt:=fun i=>(pfl n (p.getD i pk0)).rt.map Int.toNat
 fl:=fun i=>(p.getD i pk0).f
 cs:=fun i=>(pfl n (p.getD i pk0)).cl
 t:=fun i=>(p.getD i pk0).t
 s:=fun i=>(p.getD i pk0).s
def dR (ms:List (List Int)):Tp:=fun i h=>(ms.getD i []).getD h (-1)
def arO (n:Nt) (p:List Pk) (D:Tp) (k h:Int):Option Int:=if h<0∨hps n p k≤h then none else arr (toF n p) D k.toNat h.toNat
theorem arO_neg {n:Nt} {p:List Pk} {D:Tp} {k h:Int} (e:h<0∨hps n p k≤h):arO n p D k h=none:=if_pos e
theorem arO_zero {n:Nt} {p:List Pk} {D:Tp} {k:Int} (e:¬((0:Int)<0∨hps n p k≤0)):arO n p D k 0=some (p.getD k.toNat pk0).t :=by
 unfold arO;rw [if_neg e];rfl
theorem arO_pos {n:Nt} {p:List Pk} {D:Tp} {k h:Int} (e:¬(h<0∨hps n p k≤h)) (h0:h≠0):arO n p D k h=if∀j,j<h.toNat→0≤D k.toNat j then some (D k.toNat (h.toNat-1)+1)else none:=by
 unfold arO arr;rw [if_neg e,if_neg (by omega)]
end Go.Mc
end
section
namespace Go.Mc
open Go.Pk Go.Np
theorem idx_nat {l:Nat}:∀{rt:List Int},(∀x∈rt,0≤x)→(rt.map Int.toNat).idxOf l=rt.idxOf (l:Int)∧(l∈rt.map Int.toNat↔(l:Int)∈rt)
 |[],_=>by simp
 |x::rt,h=>by
  obtain⟨h1,h2⟩:=idx_nat (l:=l) (rt:=rt) fun y hy=>h y (by simp [hy])
  have hx:=h x (by simp)
  by_cases e:x=(l:Int)
  ·subst e;simp
  ·have e2:¬x.toNat=l:=by omega
   refine⟨?_,?_⟩
   ·rw [List.map_cons,List.idxOf_cons,List.idxOf_cons,h1]
    have b1:(x.toNat==l)=false:=by simp [e2]
    have b2:(x==(l:Int))=false:=by simp [e]
    rw [b1,b2]
   ·rw [List.map_cons,List.mem_cons,List.mem_cons,h2]
    constructor
    ·rintro(h|h)
     ·exact absurd h.symm e2
     ·exact .inr h
    ·rintro(h|h)
     ·exact absurd h.symm e
     ·exact .inr h
structure RtP (n:Nt) (p:List Pk):Prop where
 f:∀i,i<p.length→0≤(p.getD i pk0).f ∧(p.getD i pk0).f <n.fl.length
 r:∀i,i<p.length→∀x∈(pfl n (p.getD i pk0)).rt,0≤x
theorem hop_hp {n:Nt} {p:List Pk} (hR:RtP n p) {i l:Nat} (hi:i<p.length):hop n (p.getD i pk0).f l=match hp (toF n p) l i with
  |some h=>(h:Int)
  |none=> -1:=by
 obtain⟨f1,f2⟩:=hR.f i hi
 obtain⟨h1,h2⟩:=idx_nat (l:=l) (hR.r i hi)
 unfold hop hp
 rw [if_neg (by omega)]
 show(if(l:Int)∈(pfl n (p.getD i pk0)).rt then(((pfl n (p.getD i pk0)).rt.idxOf (l:Int):Nat):Int)else-1)=_
 by_cases hm:(l:Int)∈(pfl n (p.getD i pk0)).rt
 ·rw [if_pos hm,if_pos (show l∈(toF n p).rt i from h2.2 hm)]
  show _=((((pfl n (p.getD i pk0)).rt.map Int.toNat).idxOf l:Nat):Int)
  rw [h1]
 ·rw [if_neg hm,if_neg (show¬l∈(toF n p).rt i from fun h=>hm (h2.1 h))]
theorem hop_neg {n:Nt} {p:List Pk} (hR:RtP n p) {i:Nat} {l:Int} (hl:l<0) (hi:i<p.length):hop n (p.getD i pk0).f l= -1:=by
 obtain⟨f1,f2⟩:=hR.f i hi
 unfold hop
 rw [if_neg (by omega),if_neg fun hm=>by have:=hR.r i hi l hm;omega]
def arL (n:Nt) (p:List Pk) (D:Tp) (l:Int) (i:Nat):Option Int:=if l<0 then none else match hp (toF n p) l.toNat i with
 |some h=>arr (toF n p) D i h
 |none=>none
theorem arO_arL {n:Nt} {p:List Pk} (hR:RtP n p) {D:Tp} {l:Int} {i:Nat} (hi:i<p.length):arO n p D i (hop n (p.getD i pk0).f l)=arL n p D l i:=by
 obtain⟨f1,f2⟩:=hR.f i hi
 unfold arL
 by_cases hl:l<0
 ·rw [if_pos hl,hop_neg hR hl hi,arO_neg (.inl (by omega))]
 ·rw [if_neg hl]
  obtain⟨l,rfl⟩:∃k:Nat,l=k:=⟨l.toNat,by omega⟩
  rw [hop_hp hR hi,Int.toNat_natCast]
  cases hh:hp (toF n p) l i with
  |none=>exact arO_neg (.inl (by simp only;omega))
  |some h=>
   have h1:=hp_some hh
   have h2:h<(pfl n (p.getD i pk0)).rt.length :=by simpa [toF]using h1.1
   have h3:hps n p i=((pfl n (p.getD i pk0)).rt.length :Nat):=by
    unfold hps
    rw [Int.toNat_natCast,if_neg (by omega)]
   simp only
   unfold arO
   rw [h3,if_neg (by omega),Int.toNat_natCast,Int.toNat_natCast]
noncomputable def quL (n:Nt) (p:List Pk) (D:Tp) (l:Int):Nat→List Wt
 |0=>[]
 |i+1=>match arL n p D l i with
  |none=>quL n p D l i
  |some a=>insW ⟨a,(p.getD i pk0).f,i⟩ (quL n p D l i)
theorem quL_nat {n:Nt} {p:List Pk} {D:Tp} {l:Nat}:∀i,quL n p D l i=quN (toF n p) D l i
 |0=>rfl
 |i+1=>by
  simp only [quL,quN,quL_nat i]
  unfold arL
  rw [if_neg (by omega),Int.toNat_natCast]
  cases hp (toF n p) l i with
  |none=>rfl
  |some h=>rfl
theorem quL_neg {n:Nt} {p:List Pk} {D:Tp} {l:Int} (h:l<0):∀i,quL n p D l i=[]
 |0=>rfl
 |i+1=>by
  simp only [quL,quL_neg h i]
  unfold arL
  rw [if_pos h]
theorem quL_ok {n:Nt} {p:List Pk} {D:Tp} {l:Int} (i:Nat):(quL n p D l i).Pairwise Wt.lt∧∀x∈quL n p D l i,x.i<i:=by
 by_cases h:l<0
 ·rw [quL_neg h];exact⟨List.Pairwise.nil,fun x hx=>by simp at hx⟩
 ·obtain⟨l,rfl⟩:∃k:Nat,l=k:=⟨l.toNat,by omega⟩
  rw [quL_nat]
  obtain⟨h1,h2⟩:=quN_ok (toF n p) D l i
  exact⟨h1,fun x hx=>((h2 x).1 hx).1⟩
theorem quL_len {n:Nt} {p:List Pk} {D:Tp} {l:Int}:∀(i:Nat),(quL n p D l i).length ≤i
 |0=>by simp [quL]
 |i+1=>by
  have ih:=quL_len (n:=n) (p:=p) (D:=D) (l:=l) i
  have hin:∀(x:Wt) (q:List Wt),(insW x q).length =q.length+1:=by
   intro x q
   induction q with
   |nil=>rfl
   |cons y q ih=>simp only [insW];split<;>simp [ih]
  simp only [quL]
  cases arL n p D l i with
  |none=>simp only;omega
  |some a=>simp only [hin];omega
end Go.Mc
end
