/- Lemmas of this seat. Conditions: as stated. -/
import Derived.Test.YtjhmjiimpmmnhaaGreatMk
import Derived.Test.YtjhmjiimpmmnhaaGreatPl
set_option linter.unusedVariables false
set_option linter.unusedSimpArgs false
section
namespace Go.Mc
open Go.Pk
structure Tf where
 np:Nat
 rt:Nat→List Nat
 fl:Nat→Int
 cs:Nat→Int
 t:Nat→Int
 s:Nat→Int
structure Li where
 n:Nat
 C:Nat→Ch
 c:Nat→Nat
abbrev Tp:=Nat→Nat→Int
def hp (F:Tf) (l i:Nat):Option Nat:=if l∈F.rt i then some ((F.rt i).idxOf l)else none
def arr (F:Tf) (D:Tp) (i h:Nat):Option Int:=if h=0 then some (F.t i)else if∀j,j<h→0≤D i j then some (D i (h-1)+1)else none
structure Wt where
 a:Int
 f:Int
 i:Nat
 deriving DecidableEq
def Wt.lt (x y:Wt):Prop:=x.a<y.a∨(x.a=y.a∧(x.f<y.f∨(x.f=y.f∧x.i<y.i)))
instance (x y:Wt):Decidable (x.lt y):=inferInstanceAs (Decidable (_∨_))
theorem Wt.ext' {x y:Wt} (h1:x.a=y.a) (h2:x.f=y.f) (h3:x.i=y.i):x=y:=by cases x;cases y;simp only at h1 h2 h3;subst h1 h2 h3;rfl
theorem Wt.lt_irr {x:Wt} (h:x.lt x):False:=by unfold Wt.lt at h;omega
theorem Wt.lt_tr {x y z:Wt} (h:x.lt y) (k:y.lt z):x.lt z:=by unfold Wt.lt at*;omega
theorem Wt.lt_tri (x y:Wt):x.lt y∨x=y∨y.lt x:=by
 obtain⟨a,f,i⟩:=x
 obtain⟨a',f',i'⟩:=y
 unfold Wt.lt
 simp only [Wt.mk.injEq]
 omega
def Arr (F:Tf) (D:Tp) (l:Nat) (x:Wt):Prop:=x.i<F.np∧(∃h,hp F l x.i=some h∧arr F D x.i h=some x.a)∧x.f=F.fl x.i
structure Qu (F:Tf) (D:Tp) (l:Nat) (q:List Wt):Prop where
 o:q.Pairwise Wt.lt
 m:∀x,x∈q↔Arr F D l x
theorem ord_uniq:∀{q q':List Wt},q.Pairwise Wt.lt→q'.Pairwise Wt.lt→(∀x,x∈q↔x∈q')→q=q'
 |[],[],_,_,_=>rfl
 |[],y::q',_,_,h=>by have:=(h y).2 (by simp);simp at this
 |x::q,[],_,_,h=>by have:=(h x).1 (by simp);simp at this
 |x::q,y::q',h1,h2,h=>by
  rw [List.pairwise_cons]at h1 h2
  have e:x=y:=by
   rcases Wt.lt_tri x y with k|k|k
   ·rcases List.mem_cons.1 ((h x).1 (by simp))with e|e
    ·exact e
    ·exact(Wt.lt_irr (Wt.lt_tr k (h2.1 x e))).elim
   ·exact k
   ·rcases List.mem_cons.1 ((h y).2 (by simp))with e|e
    ·exact e.symm
    ·exact(Wt.lt_irr (Wt.lt_tr k (h1.1 y e))).elim
  subst e
  rw [ord_uniq h1.2 h2.2 fun z=>?_]
  constructor
  ·intro hz
   rcases List.mem_cons.1 ((h z).1 (List.mem_cons_of_mem _ hz))with e|e
   ·subst e;exact(Wt.lt_irr (h1.1 _ hz)).elim
   ·exact e
  ·intro hz
   rcases List.mem_cons.1 ((h z).2 (List.mem_cons_of_mem _ hz))with e|e
   ·subst e;exact(Wt.lt_irr (h2.1 _ hz)).elim
   ·exact e
theorem Qu.uniq {F:Tf} {D:Tp} {l:Nat} {q q':List Wt} (h:Qu F D l q) (k:Qu F D l q'):q=q':=ord_uniq h.o k.o fun x=>by rw [h.m,k.m]
def insW (x:Wt):List Wt→List Wt
 |[]=>[x]
 |y::q=>if x.lt y then x::y::q else y::insW x q
theorem insW_mem {x z:Wt}:∀{q:List Wt},z∈insW x q↔z=x∨z∈q
 |[]=>by simp [insW]
 |y::q=>by
  simp only [insW]
  split
  ·simp
  ·simp only [List.mem_cons,insW_mem]
   constructor
   ·rintro(h|h|h)
    ·exact .inr (.inl h)
    ·exact .inl h
    ·exact .inr (.inr h)
   ·rintro(h|h|h)
    ·exact .inr (.inl h)
    ·exact .inl h
    ·exact .inr (.inr h)
theorem insW_ord {x:Wt}:∀{q:List Wt},q.Pairwise Wt.lt→x∉q→(insW x q).Pairwise Wt.lt
 |[],_,_=>by simp [insW]
 |y::q,h,hx=>by
  rw [List.pairwise_cons]at h
  simp only [insW]
  split
  ·rename_i k
   rw [List.pairwise_cons]
   refine⟨fun z hz=>?_,List.pairwise_cons.2 h⟩
   rcases List.mem_cons.1 hz with rfl|hz
   ·exact k
   ·exact Wt.lt_tr k (h.1 z hz)
  ·rename_i k
   rw [List.pairwise_cons]
   refine⟨fun z hz=>?_,insW_ord h.2 (fun hm=>hx (List.mem_cons_of_mem _ hm))⟩
   rcases insW_mem.1 hz with rfl|hz
   ·rcases Wt.lt_tri z y with k2|k2|k2
    ·exact absurd k2 k
    ·subst k2;simp at hx
    ·exact k2
   ·exact h.1 z hz
noncomputable def quN (F:Tf) (D:Tp) (l:Nat):Nat→List Wt
 |0=>[]
 |i+1=>match hp F l i with
  |none=>quN F D l i
  |some h=>match arr F D i h with
   |none=>quN F D l i
   |some a=>insW ⟨a,F.fl i,i⟩ (quN F D l i)
theorem quN_ok (F:Tf) (D:Tp) (l:Nat):∀n,(quN F D l n).Pairwise Wt.lt∧∀x,x∈quN F D l n↔(x.i<n∧(∃h,hp F l x.i=some h∧arr F D x.i h=some x.a)∧x.f=F.fl x.i)
 |0=>⟨List.Pairwise.nil,fun x=>by simp [quN]⟩
 |n+1=>by
  obtain⟨h1,h2⟩:=quN_ok F D l n
  simp only [quN]
  cases hh:hp F l n with
  |none=>
   refine⟨h1,fun x=>?_⟩
   rw [h2]
   constructor
   ·rintro⟨a,b,c⟩;exact⟨by omega,b,c⟩
   ·rintro⟨a,⟨h,b1,b2⟩,c⟩
    refine⟨?_,⟨h,b1,b2⟩,c⟩
    by_cases e:x.i=n
    ·rw [e,hh]at b1;cases b1
    ·omega
  |some h=>
   simp only
   cases ha:arr F D n h with
   |none=>
    refine⟨h1,fun x=>?_⟩
    simp only
    rw [h2]
    constructor
    ·rintro⟨a,b,c⟩;exact⟨by omega,b,c⟩
    ·rintro⟨a,⟨h',b1,b2⟩,c⟩
     refine⟨?_,⟨h',b1,b2⟩,c⟩
     by_cases e:x.i=n
     ·rw [e]at b1 b2
      rw [hh]at b1;cases b1
      rw [ha]at b2;cases b2
     ·omega
   |some a=>
    simp only
    refine⟨insW_ord h1 fun hm=>by have:=((h2 _).1 hm).1;simp at this,fun x=>?_⟩
    rw [insW_mem,h2]
    constructor
    ·rintro(rfl|⟨a,b,c⟩)
     ·exact⟨by simp,⟨h,hh,ha⟩,rfl⟩
     ·exact⟨by omega,b,c⟩
    ·rintro⟨a',⟨h',b1,b2⟩,c⟩
     by_cases e:x.i=n
     ·rw [e]at b1 b2 c
      rw [hh]at b1;cases b1
      rw [ha]at b2;cases b2
      left
      obtain⟨xa,xf,xi⟩:=x
      simp only at e c⊢
      subst e c;rfl
     ·exact .inr ⟨by omega,⟨h',b1,b2⟩,c⟩
noncomputable def qu (F:Tf) (D:Tp) (l:Nat):List Wt:=quN F D l F.np
theorem qu_ok (F:Tf) (D:Tp) (l:Nat):Qu F D l (qu F D l):=⟨(quN_ok F D l F.np).1,(quN_ok F D l F.np).2⟩
def pkq (F:Tf) (q:List Wt):List Pk:=q.map fun x=>⟨F.cs x.i,x.a,F.s x.i⟩
theorem pkq_len (F:Tf) (q:List Wt):(pkq F q).length =q.length:=by simp [pkq]
theorem pkq_at {F:Tf} {q:List Wt} {k:Nat} (h:k<q.length):(pkq F q).getD k pk0=⟨F.cs q[k].i,q[k].a,F.s q[k].i⟩:=by
 simp [pkq,List.getD_eq_getElem?_getD,h]
theorem pkq_asc {F:Tf} {q:List Wt} (h:q.Pairwise Wt.lt):Asc (pkq F q):=by
 intro i j hij hj
 rw [pkq_len]at hj
 unfold tm
 rw [pkq_at (by omega),pkq_at hj]
 rcases Nat.lt_or_ge i j with h1|h1
 ·have:=List.pairwise_iff_getElem.1 h i j (by omega) hj h1
  simp only
  unfold Wt.lt at this;omega
 ·have:i=j:=by omega
  subst this;exact Int.le_refl _
def plc (q:List Wt) (i:Nat):Option Nat:=q.findIdx? fun x=>decide (x.i=i)
theorem plc_some {q:List Wt} {i k:Nat} (h:plc q i=some k):∃hk:k<q.length,q[k].i =i:=by
 unfold plc at h
 obtain⟨h1,h2,_⟩:=List.findIdx?_eq_some_iff_getElem.1 h
 exact⟨h1,by simpa using h2⟩
theorem plc_none {q:List Wt} {i:Nat}:plc q i=none↔∀x∈q,x.i≠i:=by
 unfold plc
 rw [List.findIdx?_eq_none_iff]
 simp
theorem Qu.inj {F:Tf} {D:Tp} {l:Nat} {q:List Wt} (h:Qu F D l q) {j k:Nat} (hj:j<q.length) (hk:k<q.length) (e:q[j].i =q[k].i):j=k:=by
 have h1:=(h.m _).1 (List.getElem_mem hj)
 have h2:=(h.m _).1 (List.getElem_mem hk)
 obtain⟨_,⟨u,hu,hu2⟩,hf⟩:=h1
 obtain⟨_,⟨v,hv,hv2⟩,hf2⟩:=h2
 rw [e]at hu hu2 hf
 rw [hv]at hu;cases hu
 rw [hv2]at hu2
 simp only [Option.some.injEq]at hu2
 have:q[j]=q[k]:=Wt.ext' hu2.symm (by rw [hf,hf2]) e
 rcases Nat.lt_trichotomy j k with h3|h3|h3
 ·have:=List.pairwise_iff_getElem.1 h.o j k hj hk h3
  rw [‹q[j]=q[k]›]at this
  exact(Wt.lt_irr this).elim
 ·exact h3
 ·have:=List.pairwise_iff_getElem.1 h.o k j hk hj h3
  rw [‹q[j]=q[k]›]at this
  exact(Wt.lt_irr this).elim
theorem Qu.plc {F:Tf} {D:Tp} {l:Nat} {q:List Wt} (h:Qu F D l q) {k:Nat} (hk:k<q.length):Mc.plc q q[k].i =some k:=by
 cases hp:Mc.plc q q[k].i with
 |none=>exact absurd rfl (plc_none.1 hp _ (List.getElem_mem hk))
 |some j=>
  obtain⟨h1,h2⟩:=plc_some hp
  rw [h.inj h1 hk h2]
noncomputable def pas (F:Tf) (Z:Li) (T:Nat) (D:Tp) (l i:Nat):Int:=match plc (qu F D l) i with
 |some k=>(run (Z.C l) (pkq F (qu F D l)) (Z.c l) T).dn k
 |none=> -1
def Av (T:Nat) (x y:Int):Prop:=(0≤x∧x<T)∨(0≤y∧y<T)→x=y
theorem Av.refl {T:Nat} {x:Int}:Av T x x:=fun _=>rfl
theorem Av.le {T T':Nat} {x y:Int} (h:Av T x y) (hT:T'≤T):Av T' x y:=fun k=>h (k.imp (fun k=>⟨k.1,by omega⟩) (fun k=>⟨k.1,by omega⟩))
def Same (F:Tf) (D D':Tp) (l T:Nat):Prop:=∀i h (a:Int),i<F.np→hp F l i=some h→a≤T→(arr F D i h=some a↔arr F D' i h=some a)
theorem split_ord (T:Int):∀{q:List Wt},q.Pairwise Wt.lt→q=q.filter (fun x=>decide (x.a≤T))++q.filter (fun x=> !decide (x.a≤T))
 |[],_=>rfl
 |x::q,h=>by
  rw [List.pairwise_cons]at h
  by_cases hx:x.a≤T
  ·simp only [List.filter_cons,hx,decide_true,if_true,Bool.not_true,Bool.false_eq_true,if_false,List.cons_append]
   rw [←split_ord T h.2]
  ·have h1:q.filter (fun x=>decide (x.a≤T))=[]:=List.filter_eq_nil_iff.2 fun y hy=>by
    have:=h.1 y hy
    unfold Wt.lt at this
    simp only [decide_eq_true_eq];omega
   have h2:q.filter (fun x=> !decide (x.a≤T))=q:=List.filter_eq_self.2 fun y hy=>by
    have:=h.1 y hy
    unfold Wt.lt at this
    simp only [Bool.not_eq_true',decide_eq_false_iff_not];omega
   simp only [List.filter_cons,hx,decide_false,Bool.false_eq_true,if_false,Bool.not_false,if_true]
   rw [h1,h2,List.nil_append]
theorem Qu.pre {F:Tf} {D D':Tp} {l T:Nat} {q q':List Wt} (h:Qu F D l q) (k:Qu F D' l q') (hs:Same F D D' l T):
  ∃pre r r',q=pre++r∧q'=pre++r'∧(∀x∈pre,x.a≤T)∧(∀x∈r,(T:Int)<x.a)∧(∀x∈r',(T:Int)<x.a):=by
 refine⟨q.filter (fun x=>decide (x.a≤(T:Int))),_,q'.filter (fun x=> !decide (x.a≤(T:Int))),split_ord T h.o,?_,fun x hx=>by simpa using(List.mem_filter.1 hx).2,fun x hx=>by simpa using(List.mem_filter.1 hx).2,fun x hx=>by simpa using(List.mem_filter.1 hx).2⟩
 have e:q.filter (fun x=>decide (x.a≤(T:Int)))=q'.filter (fun x=>decide (x.a≤(T:Int))):=by
  refine ord_uniq (h.o.filter _) (k.o.filter _) fun x=>?_
  rw [List.mem_filter,List.mem_filter,h.m,k.m]
  simp only [decide_eq_true_eq]
  constructor
  ·rintro⟨⟨a,⟨u,b1,b2⟩,c⟩,d⟩
   exact⟨⟨a,⟨u,b1,(hs x.i u x.a a b1 d).1 b2⟩,c⟩,d⟩
  ·rintro⟨⟨a,⟨u,b1,b2⟩,c⟩,d⟩
   exact⟨⟨a,⟨u,b1,(hs x.i u x.a a b1 d).2 b2⟩,c⟩,d⟩
 rw [e];exact split_ord T k.o
theorem pas_same {F:Tf} {Z:Li} {D D':Tp} {l T N:Nat} (hs:Same F D D' l T) (i:Nat):Av (T+1) (pas F Z N D l i) (pas F Z N D' l i):=by
 have hq:=qu_ok F D l
 have hq':=qu_ok F D' l
 obtain⟨pre,r,r',e,e',hp,hr,hr'⟩:=hq.pre hq' hs
 have ha:=pkq_asc (F:=F) hq.o
 have ha':=pkq_asc (F:=F) hq'.o
 have hP:Pre (pkq F (qu F D l)) (pkq F (qu F D' l)) pre.length (T+1):=by
  refine⟨by rw [pkq_len,e];simp,by rw [pkq_len,e'];simp,fun k hk=>?_,fun k h1 h2=>?_,fun k h1 h2=>?_⟩
  ·rw [e,e'];simp [pkq,List.getD_eq_getElem?_getD,List.getElem?_append_left,hk]
  ·rw [pkq_len]at h2
   unfold tm;rw [pkq_at h2]
   simp only
   have:(qu F D l)[k]∈r:=by
    have h3:k<(pre++r).length :=by rw [←e];exact h2
    have h4:(pre++r)[k]=(qu F D l)[k]:=by congr 1;exact e.symm
    rw [←h4,List.getElem_append_right h1]
    exact List.getElem_mem _
   have:=hr _ this
   omega
  ·rw [pkq_len]at h2
   unfold tm;rw [pkq_at h2]
   simp only
   have:(qu F D' l)[k]∈r':=by
    have h3:k<(pre++r').length :=by rw [←e'];exact h2
    have h4:(pre++r')[k]=(qu F D' l)[k]:=by congr 1;exact e'.symm
    rw [←h4,List.getElem_append_right h1]
    exact List.getElem_mem _
   have:=hr' _ this
   omega
 have late:∀(D:Tp) (q:List Wt),Qu F D l q→∀k (hk:k<q.length),(T:Int)<q[k].a →¬(0≤(run (Z.C l) (pkq F q) (Z.c l) N).dn k∧(run (Z.C l) (pkq F q) (Z.c l) N).dn k<(T+1:Nat)):=by
  intro D q hq k hk hlt ⟨h1,h2⟩
  rcases(run_inv (C:=Z.C l) (c:=Z.c l) (pkq_asc (F:=F) hq.o) N).d k with h3|h3
  ·omega
  ·have:=h3.2.1
   unfold tm at this
   rw [pkq_at hk]at this
   simp only at this
   omega
 have same:∀k,k<pre.length→Av (T+1) ((run (Z.C l) (pkq F (qu F D l)) (Z.c l) N).dn k) ((run (Z.C l) (pkq F (qu F D' l)) (Z.c l) N).dn k):=by
  intro k _
  rcases Nat.lt_or_ge N (T+1)with h1|h1
  ·rw [hP.run N (by omega)];exact Av.refl
  ·have c1:=run_cut ha (C:=Z.C l) (c:=Z.c l) h1 k
   have c2:=run_cut ha' (C:=Z.C l) (c:=Z.c l) h1 k
   rw [hP.run (T+1) (Nat.le_refl _)]at c1
   rw [c1]at c2
   intro h
   rcases h with h|h
   ·rw [if_pos h]at c2
    split at c2
    ·exact c2
    ·omega
   ·rw [if_pos h]at c2
    split at c2
    ·exact c2
    ·omega
 unfold pas
 cases h1:Mc.plc (qu F D l) i with
 |some k=>
  obtain⟨hk,hki⟩:=plc_some h1
  rcases Nat.lt_or_ge k pre.length with h2|h2
  ·have hk':k<(qu F D' l).length :=by rw [e'];simp;omega
   have h4:(qu F D' l)[k].i =i:=by
    rw [←hki]
    congr 1
    have h5:(pre++r)[k]'(by simp;omega)=(pre++r')[k]'(by simp;omega):=by rw [List.getElem_append_left h2,List.getElem_append_left h2]
    have h6:(qu F D l)[k]=(pre++r)[k]'(by simp;omega):=by congr 1
    have h7:(qu F D' l)[k]=(pre++r')[k]'(by simp;omega):=by congr 1
    rw [h6,h7,h5]
   have h3:=hq'.plc hk'
   rw [h4]at h3
   rw [h3]
   exact same k h2
  ·have hlt:(T:Int)<(qu F D l)[k].a :=by
    have h4:(pre++r)[k]'(by rw [←e];exact hk)=(qu F D l)[k]:=by congr 1;exact e.symm
    rw [←h4,List.getElem_append_right h2]
    exact hr _ (List.getElem_mem _)
   have n1:=late D _ hq k hk hlt
   simp only
   cases h3:Mc.plc (qu F D' l) i with
   |none=>
    intro h
    simp only at h⊢
    rcases h with h|h
    ·exact absurd h n1
    ·omega
   |some k'=>
    obtain⟨hk',hki'⟩:=plc_some h3
    have hlt':(T:Int)<(qu F D' l)[k'].a :=by
     rcases Nat.lt_or_ge k' pre.length with h4|h4
     ·exfalso
      have h5:(pre++r)[k']'(by simp;omega)=(pre++r')[k']'(by simp;omega):=by rw [List.getElem_append_left h4,List.getElem_append_left h4]
      have h6:(qu F D l)[k']'(by rw [e];simp;omega)=(pre++r)[k']'(by simp;omega):=by congr 1
      have h7:(qu F D' l)[k']=(pre++r')[k']'(by simp;omega):=by congr 1
      have:=hq.inj (j:=k) (k:=k') hk (by rw [e];simp;omega) (by rw [hki,h6,h5,←h7,hki'])
      omega
     ·have h4':(pre++r')[k']'(by rw [←e'];exact hk')=(qu F D' l)[k']:=by congr 1;exact e'.symm
      rw [←h4',List.getElem_append_right h4]
      exact hr' _ (List.getElem_mem _)
    have n2:=late D' _ hq' k' hk' hlt'
    intro h
    rcases h with h|h
    ·exact absurd h n1
    ·exact absurd h n2
 |none=>
  simp only
  cases h3:Mc.plc (qu F D' l) i with
  |none=>exact Av.refl
  |some k'=>
   obtain⟨hk',hki'⟩:=plc_some h3
   have hlt':(T:Int)<(qu F D' l)[k'].a :=by
    rcases Nat.lt_or_ge k' pre.length with h4|h4
    ·exfalso
     have h5:(pre++r)[k']'(by simp;omega)=(pre++r')[k']'(by simp;omega):=by rw [List.getElem_append_left h4,List.getElem_append_left h4]
     have h6:(qu F D l)[k']'(by rw [e];simp;omega)=(pre++r)[k']'(by simp;omega):=by congr 1
     have h7:(qu F D' l)[k']=(pre++r')[k']'(by simp;omega):=by congr 1
     exact plc_none.1 h1 _ (List.getElem_mem (by rw [e];simp;omega:k'<(qu F D l).length)) (by rw [h6,h5,←h7,hki'])
    ·have h4':(pre++r')[k']'(by rw [←e'];exact hk')=(qu F D' l)[k']:=by congr 1;exact e'.symm
     rw [←h4',List.getElem_append_right h4]
     exact hr' _ (List.getElem_mem _)
   have n2:=late D' _ hq' k' hk' hlt'
   intro h
   rcases h with h|h
   ·omega
   ·exact absurd h n2
end Go.Mc
end
section
namespace Go.Mc
open Go.Pk
def lin (F:Tf) (i h:Nat):Nat:=(F.rt i).getD h 0
def Rts (F:Tf):Prop:=∀i,i<F.np→(F.rt i).Nodup
theorem hp_lin {F:Tf} (hR:Rts F) {i h:Nat} (hi:i<F.np) (hh:h<(F.rt i).length):hp F (lin F i h) i=some h:=by
 unfold hp lin
 rw [List.getD_eq_getElem?_getD,List.getElem?_eq_getElem hh]
 simp only [Option.getD_some]
 rw [if_pos (List.getElem_mem hh),(hR i hi).idxOf_getElem]
theorem hp_some {F:Tf} {l i h:Nat} (e:hp F l i=some h):h<(F.rt i).length ∧lin F i h=l:=by
 unfold hp at e
 split at e
 ·rename_i hm
  simp only [Option.some.injEq]at e
  have h1:=List.idxOf_lt_length_iff.2 hm
  subst e
  refine⟨h1,?_⟩
  unfold lin
  rw [List.getD_eq_getElem?_getD,List.getElem?_eq_getElem h1]
  simp
 ·cases e
def Ag (F:Tf) (T:Nat) (D D':Tp):Prop:=∀i h,i<F.np→h<(F.rt i).length →Av T (D i h) (D' i h)
def Mon (F:Tf) (D:Tp):Prop:=∀i h,i<F.np→h+1<(F.rt i).length →0≤D i (h+1)→0≤D i h∧D i h<D i (h+1)
theorem Mon.lt {F:Tf} {D:Tp} (hD:Mon F D) {i:Nat} (hi:i<F.np):∀{h:Nat},h<(F.rt i).length →0≤D i h→∀j,j<h→0≤D i j∧D i j<D i h
 |0,_,_,j,hj=>by omega
 |h+1,hh,h0,j,hj=>by
  have h1:=hD i h hi hh h0
  by_cases e:j=h
  ·subst e;exact h1
  ·have:=Mon.lt hD hi (h:=h) (by omega) h1.1 j (by omega)
   exact⟨this.1,by omega⟩
theorem same_of {F:Tf} {T:Nat} {D E:Tp} (hA:Ag F T D E) (hE:Mon F E) (l:Nat):Same F D E l T:=by
 intro i h a hi hh ha
 obtain⟨hl,_⟩:=hp_some hh
 unfold arr
 by_cases h0:h=0
 ·rw [if_pos h0,if_pos h0]
 ·rw [if_neg h0,if_neg h0]
  obtain⟨k,rfl⟩:∃k,h=k+1:=⟨h-1,by omega⟩
  rw [Nat.add_sub_cancel]
  constructor
  ·intro e
   split at e
   ·rename_i hall
    simp only [Option.some.injEq]at e
    have h1:=hall k (by omega)
    have h2:=hA i k hi (by omega) (.inl ⟨h1,by omega⟩)
    have h3:∀j,j<k+1→0≤E i j:=fun j hj=>by
     by_cases e2:j=k
     ·subst e2;omega
     ·exact(hE.lt hi (h:=k) (by omega) (by omega) j (by omega)).1
    rw [if_pos h3,←h2,e]
   ·cases e
  ·intro e
   split at e
   ·rename_i hall
    simp only [Option.some.injEq]at e
    have h1:=hall k (by omega)
    have h3:∀j,j<k+1→D i j=E i j:=fun j hj=>by
     have h4:=hall j hj
     have h5:E i j<T:=by
      by_cases e2:j=k
      ·subst e2;omega
      ·have:=(hE.lt hi (h:=k) (by omega) h1 j (by omega)).2;omega
     exact hA i j hi (by omega) (.inr ⟨h4,h5⟩)
    rw [if_pos (fun j hj=>by rw [h3 j hj];exact hall j hj),h3 k (by omega),e]
   ·cases e
theorem pas_bd (F:Tf) (Z:Li) (N:Nat) (D:Tp) (l i:Nat):pas F Z N D l i= -1∨(0≤pas F Z N D l i∧pas F Z N D l i<N∧i<F.np∧∃h a,hp F l i=some h∧arr F D i h=some a∧a≤pas F Z N D l i):=by
 unfold pas
 cases hp:plc (qu F D l) i with
 |none=>exact .inl rfl
 |some k=>
  simp only
  have hq:=qu_ok F D l
  obtain⟨hk,hki⟩:=plc_some hp
  rcases(run_inv (C:=Z.C l) (c:=Z.c l) (pkq_asc (F:=F) hq.o) N).d k with h|⟨_,h1,h2,h3⟩
  ·exact .inl h
  ·obtain⟨m1,⟨h,m2,m3⟩,_⟩:=(hq.m _).1 (List.getElem_mem hk)
   rw [hki]at m1 m2 m3
   unfold tm at h1
   rw [pkq_at hk]at h1
   exact .inr ⟨h2,h3,m1,h,_,m2,m3,h1⟩
def cut (T:Nat) (x:Int):Int:=if 0≤x∧x<T then x else-1
theorem cut_av {T:Nat} {x y:Int} (h:Av T x y):cut T x=cut T y:=by
 unfold cut
 by_cases h1:0≤x∧x<T
 ·have:=h (.inl h1);subst this;rfl
 ·by_cases h2:0≤y∧y<T
  ·have:=h (.inr h2);subst this;rfl
  ·rw [if_neg h1,if_neg h2]
theorem cut_nonneg {T:Nat} {x:Int} (h:0≤cut T x):cut T x=x∧0≤x∧x<T:=by
 unfold cut at*
 split at h
 ·rename_i k;rw [if_pos k];exact⟨rfl,k⟩
 ·omega
noncomputable def trE (F:Tf) (Z:Li) (N:Nat):Nat→Tp
 |0=>fun _ _=> -1
 |k+1=>fun i h=>cut (k+1) (pas F Z N (trE F Z N k) (lin F i h) i)
theorem ag_cut {F:Tf} {T:Nat} {D E:Tp} (h:∀i k,i<F.np→k<(F.rt i).length →D i k=cut T (E i k)):Ag F T D E:=by
 intro i k hi hk
 rw [h i k hi hk]
 intro h1
 rcases h1 with h1|h1
 ·exact(cut_nonneg h1.1).1
 ·unfold cut;rw [if_pos h1]
theorem trE_ok {F:Tf} (hR:Rts F) (Z:Li) (N:Nat):∀k,(∀i h,i<F.np→h<(F.rt i).length →trE F Z N k i h=cut k (trE F Z N (k+1) i h))∧Mon F (trE F Z N (k+1)):=by
 intro k
 have mono:∀k,(∀i h,i<F.np→h<(F.rt i).length →trE F Z N k i h=cut k (trE F Z N (k+1) i h))→Mon F (trE F Z N (k+1)):=by
  intro k hb i h hi hh h0
  have e1:trE F Z N (k+1) i (h+1)=cut (k+1) (pas F Z N (trE F Z N k) (lin F i (h+1)) i):=rfl
  rw [e1]at h0⊢
  obtain⟨c1,c2,c3⟩:=cut_nonneg h0
  rw [c1]
  rcases pas_bd F Z N (trE F Z N k) (lin F i (h+1)) i with p|⟨_,_,_,h',a,p1,p2,p3⟩
  ·omega
  ·rw [hp_lin hR hi hh]at p1
   simp only [Option.some.injEq]at p1
   subst p1
   unfold arr at p2
   rw [if_neg (by omega)]at p2
   split at p2
   ·rename_i hall
    simp only [Option.some.injEq,Nat.add_sub_cancel]at p2
    have h2:=hall h (by omega)
    have h3:=hb i h hi (by omega)
    rw [h3]at h2 p2
    obtain⟨d1,d2,d3⟩:=cut_nonneg h2
    exact⟨d2,by omega⟩
   ·cases p2
 induction k with
 |zero=>
  have hb:∀i h,i<F.np→h<(F.rt i).length →trE F Z N 0 i h=cut 0 (trE F Z N (0+1) i h):=fun i h _ _=>by
   unfold cut;rw [if_neg (by omega)];rfl
  exact⟨hb,mono 0 hb⟩
 |succ k ih=>
  have hb:∀i h,i<F.np→h<(F.rt i).length →trE F Z N (k+1) i h=cut (k+1) (trE F Z N (k+1+1) i h):=fun i h hi hh=>by
   have e1:trE F Z N (k+1) i h=cut (k+1) (pas F Z N (trE F Z N k) (lin F i h) i):=rfl
   have e2:trE F Z N (k+1+1) i h=cut (k+1+1) (pas F Z N (trE F Z N (k+1)) (lin F i h) i):=rfl
   have hs:=pas_same (Z:=Z) (N:=N) (same_of (ag_cut ih.1) ih.2 (lin F i h)) i
   rw [e1,e2,cut_av hs]
   generalize pas F Z N (trE F Z N (k+1)) (lin F i h) i=x
   unfold cut
   by_cases h1:0≤x∧x<(k+1:Nat)
   ·rw [if_pos h1,if_pos (show 0≤x∧x<(k+1+1:Nat)by omega),if_pos h1]
   ·rw [if_neg h1]
    by_cases h2:0≤x∧x<(k+1+1:Nat)
    ·rw [if_pos h2,if_neg h1]
    ·rw [if_neg h2,if_neg (by omega)]
  exact⟨hb,mono (k+1) hb⟩
noncomputable def tr (F:Tf) (Z:Li) (N:Nat):Tp:=trE F Z N N
def Con (F:Tf) (Z:Li) (N:Nat) (D:Tp):Prop:=∀i h,i<F.np→h<(F.rt i).length →D i h=pas F Z N D (lin F i h) i
theorem tr_con {F:Tf} (hR:Rts F) (Z:Li) (N:Nat):Con F Z N (tr F Z N):=by
 intro i h hi hh
 have h1:=(trE_ok hR Z N N).1 i h hi hh
 have e2:trE F Z N (N+1) i h=cut (N+1) (pas F Z N (trE F Z N N) (lin F i h) i):=rfl
 have h3:=pas_bd F Z N (trE F Z N N) (lin F i h) i
 unfold tr
 rw [e2]at h1
 rw [h1]
 generalize pas F Z N (trE F Z N N) (lin F i h) i=x at*
 unfold cut
 rcases h3 with rfl|⟨h4,h5,_⟩
 ·rw [if_neg (by omega)]
 ·rw [if_pos (show 0≤x∧x<(N+1:Nat)by omega),if_pos ⟨h4,h5⟩]
theorem tr_mon {F:Tf} (hR:Rts F) (Z:Li) (N:Nat):Mon F (tr F Z N):=by
 intro i h hi hh h0
 have hM:=(trE_ok hR Z N N).2
 have h1:=fun k hk=>(trE_ok hR Z N N).1 i k hi hk
 unfold tr at*
 have e1:=h1 (h+1) hh
 have e2:=h1 h (by omega)
 rw [e1]at h0⊢
 obtain⟨c1,c2,c3⟩:=cut_nonneg h0
 have h2:=hM i h hi hh c2
 rw [c1,e2]
 unfold cut
 rw [if_pos ⟨h2.1,by omega⟩]
 exact h2
theorem tr_step {F:Tf} (hR:Rts F) (Z:Li) {N k:Nat} {D:Tp} (hA:Ag F k D (tr F Z N)) {i h:Nat} (hi:i<F.np) (hh:h<(F.rt i).length):Av (k+1) (pas F Z N D (lin F i h) i) (tr F Z N i h):=by
 rw [tr_con hR Z N i h hi hh]
 exact pas_same (same_of hA (tr_mon hR Z N) _) i
theorem pas_end {F:Tf} {Z:Li} {N:Nat} {D D':Tp} {l l' i:Nat} (h:Av N (pas F Z N D l i) (pas F Z N D' l' i)):pas F Z N D l i=pas F Z N D' l' i:=by
 rcases pas_bd F Z N D l i with h1|h1
 ·rcases pas_bd F Z N D' l' i with h2|h2
  ·rw [h1,h2]
  ·exact h (.inr ⟨h2.1,h2.2.1⟩)
 ·exact h (.inl ⟨h1.1,h1.2.1⟩)
theorem tr_uniq {F:Tf} (hR:Rts F) (Z:Li) {N:Nat} {D:Tp} (hD:Con F Z N D):∀i h,i<F.np→h<(F.rt i).length →D i h=tr F Z N i h:=by
 have hA:∀k,Ag F k D (tr F Z N):=by
  intro k
  induction k with
  |zero=>intro i h _ _ hk;omega
  |succ k ih=>intro i h hi hh;rw [hD i h hi hh];exact tr_step hR Z ih hi hh
 intro i h hi hh
 have:=hA N i h hi hh
 rw [hD i h hi hh,tr_con hR Z N i h hi hh]at this⊢
 exact pas_end this
theorem tr_bd {F:Tf} (hR:Rts F) (Z:Li) (N:Nat) {i h:Nat} (hi:i<F.np) (hh:h<(F.rt i).length):tr F Z N i h= -1∨(0≤tr F Z N i h∧tr F Z N i h<N∧∃a,arr F (tr F Z N) i h=some a∧a≤tr F Z N i h):=by
 have h1:=pas_bd F Z N (tr F Z N) (lin F i h) i
 rw [←tr_con hR Z N i h hi hh]at h1
 rcases h1 with h1|⟨h1,h2,_,h',a,h3,h4,h5⟩
 ·exact .inl h1
 ·rw [hp_lin hR hi hh]at h3
  simp only [Option.some.injEq]at h3
  subst h3
  exact .inr ⟨h1,h2,a,h4,h5⟩
end Go.Mc
end
section
namespace Go.Np
open Go.Cv
def xname (i:Nat):ByteArray:=⟨#[120,(97+i).toUInt8]⟩
def yname (i:Nat):ByteArray:=⟨#[121,(97+i).toUInt8]⟩
def xs (t:Nat):List ByteArray:=(List.range t).map xname
def yf (f:Fl) (i:Nat):Fl:=⟨yname i,f.rt,f.cl,f.lo,f.hi,f.v,f.p,f.q⟩
def fr (l:List Fl) (j:Nat):List Fl:=(List.range l.length).map fun i=>if i<j then yf (l.getD i fl0) i else l.getD i fl0
end Go.Np
end
