/- Lemmas of this seat. Conditions: as stated. -/
import Derived.Test.YtjhmjiimpmmnhaaGreatMk
set_option linter.unusedVariables false
set_option linter.unusedSimpArgs false
namespace Go.Mc
open Go.Pk
structure Tf where
 np:Nat
 rt:Nat→List Nat
 fl:Nat→Int
 cs:Nat→Int
 t:Nat→Int
 s:Nat→Int
structure Li where
 n:Nat
 C:Nat→Ch
 c:Nat→Nat
abbrev Tp:=Nat→Nat→Int
def hp (F:Tf) (l i:Nat):Option Nat:=if l∈F.rt i then some ((F.rt i).idxOf l)else none
def arr (F:Tf) (D:Tp) (i h:Nat):Option Int:=if h=0 then some (F.t i)else if∀j,j<h→0≤D i j then some (D i (h-1)+1)else none
structure Wt where
 a:Int
 f:Int
 i:Nat
 deriving DecidableEq
def Wt.lt (x y:Wt):Prop:=x.a<y.a∨(x.a=y.a∧(x.f<y.f∨(x.f=y.f∧x.i<y.i)))
instance (x y:Wt):Decidable (x.lt y):=inferInstanceAs (Decidable (_∨_))
theorem Wt.ext' {x y:Wt} (h1:x.a=y.a) (h2:x.f=y.f) (h3:x.i=y.i):x=y:=by cases x;cases y;simp only at h1 h2 h3;subst h1 h2 h3;rfl
theorem Wt.lt_irr {x:Wt} (h:x.lt x):False:=by unfold Wt.lt at h;omega
theorem Wt.lt_tr {x y z:Wt} (h:x.lt y) (k:y.lt z):x.lt z:=by unfold Wt.lt at*;omega
theorem Wt.lt_tri (x y:Wt):x.lt y∨x=y∨y.lt x:=by
 obtain⟨a,f,i⟩:=x
 obtain⟨a',f',i'⟩:=y
 unfold Wt.lt
 simp only [Wt.mk.injEq]
 omega
def Arr (F:Tf) (D:Tp) (l:Nat) (x:Wt):Prop:=x.i<F.np∧(∃h,hp F l x.i=some h∧arr F D x.i h=some x.a)∧x.f=F.fl x.i
structure Qu (F:Tf) (D:Tp) (l:Nat) (q:List Wt):Prop where
 o:q.Pairwise Wt.lt
 m:∀x,x∈q↔Arr F D l x
theorem ord_uniq:∀{q q':List Wt},q.Pairwise Wt.lt→q'.Pairwise Wt.lt→(∀x,x∈q↔x∈q')→q=q'
 |[],[],_,_,_=>rfl
 |[],y::q',_,_,h=>by have:=(h y).2 (by simp);simp at this
 |x::q,[],_,_,h=>by have:=(h x).1 (by simp);simp at this
 |x::q,y::q',h1,h2,h=>by
  rw [List.pairwise_cons]at h1 h2
  have e:x=y:=by
   rcases Wt.lt_tri x y with k|k|k
   ·rcases List.mem_cons.1 ((h x).1 (by simp))with e|e
    ·exact e
    ·exact(Wt.lt_irr (Wt.lt_tr k (h2.1 x e))).elim
   ·exact k
   ·rcases List.mem_cons.1 ((h y).2 (by simp))with e|e
    ·exact e.symm
    ·exact(Wt.lt_irr (Wt.lt_tr k (h1.1 y e))).elim
  subst e
  rw [ord_uniq h1.2 h2.2 fun z=>?_]
  constructor
  ·intro hz
   rcases List.mem_cons.1 ((h z).1 (List.mem_cons_of_mem _ hz))with e|e
   ·subst e;exact(Wt.lt_irr (h1.1 _ hz)).elim
   ·exact e
  ·intro hz
   rcases List.mem_cons.1 ((h z).2 (List.mem_cons_of_mem _ hz))with e|e
   ·subst e;exact(Wt.lt_irr (h2.1 _ hz)).elim
   ·exact e
theorem Qu.uniq {F:Tf} {D:Tp} {l:Nat} {q q':List Wt} (h:Qu F D l q) (k:Qu F D l q'):q=q':=ord_uniq h.o k.o fun x=>by rw [h.m,k.m]
def insW (x:Wt):List Wt→List Wt
 |[]=>[x]
 |y::q=>if x.lt y then x::y::q else y::insW x q
theorem insW_mem {x z:Wt}:∀{q:List Wt},z∈insW x q↔z=x∨z∈q
 |[]=>by simp [insW]
 |y::q=>by
  simp only [insW]
  split
  ·simp
  ·simp only [List.mem_cons,insW_mem]
   constructor
   ·rintro(h|h|h)
    ·exact .inr (.inl h)
    ·exact .inl h
    ·exact .inr (.inr h)
   ·rintro(h|h|h)
    ·exact .inr (.inl h)
    ·exact .inl h
    ·exact .inr (.inr h)
theorem insW_ord {x:Wt}:∀{q:List Wt},q.Pairwise Wt.lt→x∉q→(insW x q).Pairwise Wt.lt
 |[],_,_=>by simp [insW]
 |y::q,h,hx=>by
  rw [List.pairwise_cons]at h
  simp only [insW]
  split
  ·rename_i k
   rw [List.pairwise_cons]
   refine⟨fun z hz=>?_,List.pairwise_cons.2 h⟩
   rcases List.mem_cons.1 hz with rfl|hz
   ·exact k
   ·exact Wt.lt_tr k (h.1 z hz)
  ·rename_i k
   rw [List.pairwise_cons]
   refine⟨fun z hz=>?_,insW_ord h.2 (fun hm=>hx (List.mem_cons_of_mem _ hm))⟩
   rcases insW_mem.1 hz with rfl|hz
   ·rcases Wt.lt_tri z y with k2|k2|k2
    ·exact absurd k2 k
    ·subst k2;simp at hx
    ·exact k2
   ·exact h.1 z hz
noncomputable def quN (F:Tf) (D:Tp) (l:Nat):Nat→List Wt
 |0=>[]
 |i+1=>match hp F l i with
  |none=>quN F D l i
  |some h=>match arr F D i h with
   |none=>quN F D l i
   |some a=>insW ⟨a,F.fl i,i⟩ (quN F D l i)
theorem quN_ok (F:Tf) (D:Tp) (l:Nat):∀n,(quN F D l n).Pairwise Wt.lt∧∀x,x∈quN F D l n↔(x.i<n∧(∃h,hp F l x.i=some h∧arr F D x.i h=some x.a)∧x.f=F.fl x.i)
 |0=>⟨List.Pairwise.nil,fun x=>by simp [quN]⟩
 |n+1=>by
  obtain⟨h1,h2⟩:=quN_ok F D l n
  simp only [quN]
  cases hh:hp F l n with
  |none=>
   refine⟨h1,fun x=>?_⟩
   rw [h2]
   constructor
   ·rintro⟨a,b,c⟩;exact⟨by omega,b,c⟩
   ·rintro⟨a,⟨h,b1,b2⟩,c⟩
    refine⟨?_,⟨h,b1,b2⟩,c⟩
    by_cases e:x.i=n
    ·rw [e,hh]at b1;cases b1
    ·omega
  |some h=>
   simp only
   cases ha:arr F D n h with
   |none=>
    refine⟨h1,fun x=>?_⟩
    simp only
    rw [h2]
    constructor
    ·rintro⟨a,b,c⟩;exact⟨by omega,b,c⟩
    ·rintro⟨a,⟨h',b1,b2⟩,c⟩
     refine⟨?_,⟨h',b1,b2⟩,c⟩
     by_cases e:x.i=n
     ·rw [e]at b1 b2
      rw [hh]at b1;cases b1
      rw [ha]at b2;cases b2
     ·omega
   |some a=>
    simp only
    refine⟨insW_ord h1 fun hm=>by have:=((h2 _).1 hm).1;simp at this,fun x=>?_⟩
    rw [insW_mem,h2]
    constructor
    ·rintro(rfl|⟨a,b,c⟩)
     ·exact⟨by simp,⟨h,hh,ha⟩,rfl⟩
     ·exact⟨by omega,b,c⟩
    ·rintro⟨a',⟨h',b1,b2⟩,c⟩
     by_cases e:x.i=n
     ·rw [e]at b1 b2 c
      rw [hh]at b1;cases b1
      rw [ha]at b2;cases b2
      left
      obtain⟨xa,xf,xi⟩:=x
      simp only at e c⊢
      subst e c;rfl
     ·exact .inr ⟨by omega,⟨h',b1,b2⟩,c⟩
noncomputable def qu (F:Tf) (D:Tp) (l:Nat):List Wt:=quN F D l F.np
theorem qu_ok (F:Tf) (D:Tp) (l:Nat):Qu F D l (qu F D l):=⟨(quN_ok F D l F.np).1,(quN_ok F D l F.np).2⟩
def pkq (F:Tf) (q:List Wt):List Pk:=q.map fun x=>⟨F.cs x.i,x.a,F.s x.i⟩
theorem pkq_len (F:Tf) (q:List Wt):(pkq F q).length =q.length:=by simp [pkq]
theorem pkq_at {F:Tf} {q:List Wt} {k:Nat} (h:k<q.length):(pkq F q).getD k pk0=⟨F.cs q[k].i,q[k].a,F.s q[k].i⟩:=by
 simp [pkq,List.getD_eq_getElem?_getD,h]
theorem pkq_asc {F:Tf} {q:List Wt} (h:q.Pairwise Wt.lt):Asc (pkq F q):=by
 intro i j hij hj
 rw [pkq_len]at hj
 unfold tm
 rw [pkq_at (by omega),pkq_at hj]
 rcases Nat.lt_or_ge i j with h1|h1
 ·have:=List.pairwise_iff_getElem.1 h i j (by omega) hj h1
  simp only
  unfold Wt.lt at this;omega
 ·have:i=j:=by omega
  subst this;exact Int.le_refl _
def plc (q:List Wt) (i:Nat):Option Nat:=q.findIdx? fun x=>decide (x.i=i)
theorem plc_some {q:List Wt} {i k:Nat} (h:plc q i=some k):∃hk:k<q.length,q[k].i =i:=by
 unfold plc at h
 obtain⟨h1,h2,_⟩:=List.findIdx?_eq_some_iff_getElem.1 h
 exact⟨h1,by simpa using h2⟩
theorem plc_none {q:List Wt} {i:Nat}:plc q i=none↔∀x∈q,x.i≠i:=by
 unfold plc
 rw [List.findIdx?_eq_none_iff]
 simp
theorem Qu.inj {F:Tf} {D:Tp} {l:Nat} {q:List Wt} (h:Qu F D l q) {j k:Nat} (hj:j<q.length) (hk:k<q.length) (e:q[j].i =q[k].i):j=k:=by
 have h1:=(h.m _).1 (List.getElem_mem hj)
 have h2:=(h.m _).1 (List.getElem_mem hk)
 obtain⟨_,⟨u,hu,hu2⟩,hf⟩:=h1
 obtain⟨_,⟨v,hv,hv2⟩,hf2⟩:=h2
 rw [e]at hu hu2 hf
 rw [hv]at hu;cases hu
 rw [hv2]at hu2
 simp only [Option.some.injEq]at hu2
 have:q[j]=q[k]:=Wt.ext' hu2.symm (by rw [hf,hf2]) e
 rcases Nat.lt_trichotomy j k with h3|h3|h3
 ·have:=List.pairwise_iff_getElem.1 h.o j k hj hk h3
  rw [‹q[j]=q[k]›]at this
  exact(Wt.lt_irr this).elim
 ·exact h3
 ·have:=List.pairwise_iff_getElem.1 h.o k j hk hj h3
  rw [‹q[j]=q[k]›]at this
  exact(Wt.lt_irr this).elim
theorem Qu.plc {F:Tf} {D:Tp} {l:Nat} {q:List Wt} (h:Qu F D l q) {k:Nat} (hk:k<q.length):Mc.plc q q[k].i =some k:=by
 cases hp:Mc.plc q q[k].i with
 |none=>exact absurd rfl (plc_none.1 hp _ (List.getElem_mem hk))
 |some j=>
  obtain⟨h1,h2⟩:=plc_some hp
  rw [h.inj h1 hk h2]
noncomputable def pas (F:Tf) (Z:Li) (T:Nat) (D:Tp) (l i:Nat):Int:=match plc (qu F D l) i with
 |some k=>(run (Z.C l) (pkq F (qu F D l)) (Z.c l) T).dn k
 |none=> -1
def Av (T:Nat) (x y:Int):Prop:=(0≤x∧x<T)∨(0≤y∧y<T)→x=y
theorem Av.refl {T:Nat} {x:Int}:Av T x x:=fun _=>rfl
theorem Av.le {T T':Nat} {x y:Int} (h:Av T x y) (hT:T'≤T):Av T' x y:=fun k=>h (k.imp (fun k=>⟨k.1,by omega⟩) (fun k=>⟨k.1,by omega⟩))
def Same (F:Tf) (D D':Tp) (l T:Nat):Prop:=∀i h (a:Int),i<F.np→hp F l i=some h→a≤T→(arr F D i h=some a↔arr F D' i h=some a)
theorem split_ord (T:Int):∀{q:List Wt},q.Pairwise Wt.lt→q=q.filter (fun x=>decide (x.a≤T))++q.filter (fun x=> !decide (x.a≤T))
 |[],_=>rfl
 |x::q,h=>by
  rw [List.pairwise_cons]at h
  by_cases hx:x.a≤T
  ·simp only [List.filter_cons,hx,decide_true,if_true,Bool.not_true,Bool.false_eq_true,if_false,List.cons_append]
   rw [←split_ord T h.2]
  ·have h1:q.filter (fun x=>decide (x.a≤T))=[]:=List.filter_eq_nil_iff.2 fun y hy=>by
    have:=h.1 y hy
    unfold Wt.lt at this
    simp only [decide_eq_true_eq];omega
   have h2:q.filter (fun x=> !decide (x.a≤T))=q:=List.filter_eq_self.2 fun y hy=>by
    have:=h.1 y hy
    unfold Wt.lt at this
    simp only [Bool.not_eq_true',decide_eq_false_iff_not];omega
   simp only [List.filter_cons,hx,decide_false,Bool.false_eq_true,if_false,Bool.not_false,if_true]
   rw [h1,h2,List.nil_append]
theorem Qu.pre {F:Tf} {D D':Tp} {l T:Nat} {q q':List Wt} (h:Qu F D l q) (k:Qu F D' l q') (hs:Same F D D' l T):
  ∃pre r r',q=pre++r∧q'=pre++r'∧(∀x∈pre,x.a≤T)∧(∀x∈r,(T:Int)<x.a)∧(∀x∈r',(T:Int)<x.a):=by
 refine⟨q.filter (fun x=>decide (x.a≤(T:Int))),_,q'.filter (fun x=> !decide (x.a≤(T:Int))),split_ord T h.o,?_,fun x hx=>by simpa using(List.mem_filter.1 hx).2,fun x hx=>by simpa using(List.mem_filter.1 hx).2,fun x hx=>by simpa using(List.mem_filter.1 hx).2⟩
 have e:q.filter (fun x=>decide (x.a≤(T:Int)))=q'.filter (fun x=>decide (x.a≤(T:Int))):=by
  refine ord_uniq (h.o.filter _) (k.o.filter _) fun x=>?_
  rw [List.mem_filter,List.mem_filter,h.m,k.m]
  simp only [decide_eq_true_eq]
  constructor
  ·rintro⟨⟨a,⟨u,b1,b2⟩,c⟩,d⟩
   exact⟨⟨a,⟨u,b1,(hs x.i u x.a a b1 d).1 b2⟩,c⟩,d⟩
  ·rintro⟨⟨a,⟨u,b1,b2⟩,c⟩,d⟩
   exact⟨⟨a,⟨u,b1,(hs x.i u x.a a b1 d).2 b2⟩,c⟩,d⟩
 rw [e];exact split_ord T k.o
theorem pas_same {F:Tf} {Z:Li} {D D':Tp} {l T N:Nat} (hs:Same F D D' l T) (i:Nat):Av (T+1) (pas F Z N D l i) (pas F Z N D' l i):=by
 have hq:=qu_ok F D l
 have hq':=qu_ok F D' l
 obtain⟨pre,r,r',e,e',hp,hr,hr'⟩:=hq.pre hq' hs
 have ha:=pkq_asc (F:=F) hq.o
 have ha':=pkq_asc (F:=F) hq'.o
 have hP:Pre (pkq F (qu F D l)) (pkq F (qu F D' l)) pre.length (T+1):=by
  refine⟨by rw [pkq_len,e];simp,by rw [pkq_len,e'];simp,fun k hk=>?_,fun k h1 h2=>?_,fun k h1 h2=>?_⟩
  ·rw [e,e'];simp [pkq,List.getD_eq_getElem?_getD,List.getElem?_append_left,hk]
  ·rw [pkq_len]at h2
   unfold tm;rw [pkq_at h2]
   simp only
   have:(qu F D l)[k]∈r:=by
    have h3:k<(pre++r).length :=by rw [←e];exact h2
    have h4:(pre++r)[k]=(qu F D l)[k]:=by congr 1;exact e.symm
    rw [←h4,List.getElem_append_right h1]
    exact List.getElem_mem _
   have:=hr _ this
   omega
  ·rw [pkq_len]at h2
   unfold tm;rw [pkq_at h2]
   simp only
   have:(qu F D' l)[k]∈r':=by
    have h3:k<(pre++r').length :=by rw [←e'];exact h2
    have h4:(pre++r')[k]=(qu F D' l)[k]:=by congr 1;exact e'.symm
    rw [←h4,List.getElem_append_right h1]
    exact List.getElem_mem _
   have:=hr' _ this
   omega
 have late:∀(D:Tp) (q:List Wt),Qu F D l q→∀k (hk:k<q.length),(T:Int)<q[k].a →¬(0≤(run (Z.C l) (pkq F q) (Z.c l) N).dn k∧(run (Z.C l) (pkq F q) (Z.c l) N).dn k<(T+1:Nat)):=by
  intro D q hq k hk hlt ⟨h1,h2⟩
  rcases(run_inv (C:=Z.C l) (c:=Z.c l) (pkq_asc (F:=F) hq.o) N).d k with h3|h3
  ·omega
  ·have:=h3.2.1
   unfold tm at this
   rw [pkq_at hk]at this
   simp only at this
   omega
 have same:∀k,k<pre.length→Av (T+1) ((run (Z.C l) (pkq F (qu F D l)) (Z.c l) N).dn k) ((run (Z.C l) (pkq F (qu F D' l)) (Z.c l) N).dn k):=by
  intro k _
  rcases Nat.lt_or_ge N (T+1)with h1|h1
  ·rw [hP.run N (by omega)];exact Av.refl
  ·have c1:=run_cut ha (C:=Z.C l) (c:=Z.c l) h1 k
   have c2:=run_cut ha' (C:=Z.C l) (c:=Z.c l) h1 k
   rw [hP.run (T+1) (Nat.le_refl _)]at c1
   rw [c1]at c2
   intro h
   rcases h with h|h
   ·rw [if_pos h]at c2
    split at c2
    ·exact c2
    ·omega
   ·rw [if_pos h]at c2
    split at c2
    ·exact c2
    ·omega
 unfold pas
 cases h1:Mc.plc (qu F D l) i with
 |some k=>
  obtain⟨hk,hki⟩:=plc_some h1
  rcases Nat.lt_or_ge k pre.length with h2|h2
  ·have hk':k<(qu F D' l).length :=by rw [e'];simp;omega
   have h4:(qu F D' l)[k].i =i:=by
    rw [←hki]
    congr 1
    have h5:(pre++r)[k]'(by simp;omega)=(pre++r')[k]'(by simp;omega):=by rw [List.getElem_append_left h2,List.getElem_append_left h2]
    have h6:(qu F D l)[k]=(pre++r)[k]'(by simp;omega):=by congr 1
    have h7:(qu F D' l)[k]=(pre++r')[k]'(by simp;omega):=by congr 1
    rw [h6,h7,h5]
   have h3:=hq'.plc hk'
   rw [h4]at h3
   rw [h3]
   exact same k h2
  ·have hlt:(T:Int)<(qu F D l)[k].a :=by
    have h4:(pre++r)[k]'(by rw [←e];exact hk)=(qu F D l)[k]:=by congr 1;exact e.symm
    rw [←h4,List.getElem_append_right h2]
    exact hr _ (List.getElem_mem _)
   have n1:=late D _ hq k hk hlt
   simp only
   cases h3:Mc.plc (qu F D' l) i with
   |none=>
    intro h
    simp only at h⊢
    rcases h with h|h
    ·exact absurd h n1
    ·omega
   |some k'=>
    obtain⟨hk',hki'⟩:=plc_some h3
    have hlt':(T:Int)<(qu F D' l)[k'].a :=by
     rcases Nat.lt_or_ge k' pre.length with h4|h4
     ·exfalso
      have h5:(pre++r)[k']'(by simp;omega)=(pre++r')[k']'(by simp;omega):=by rw [List.getElem_append_left h4,List.getElem_append_left h4]
      have h6:(qu F D l)[k']'(by rw [e];simp;omega)=(pre++r)[k']'(by simp;omega):=by congr 1
      have h7:(qu F D' l)[k']=(pre++r')[k']'(by simp;omega):=by congr 1
      have:=hq.inj (j:=k) (k:=k') hk (by rw [e];simp;omega) (by rw [hki,h6,h5,←h7,hki'])
      omega
     ·have h4':(pre++r')[k']'(by rw [←e'];exact hk')=(qu F D' l)[k']:=by congr 1;exact e'.symm
      rw [←h4',List.getElem_append_right h4]
      exact hr' _ (List.getElem_mem _)
    have n2:=late D' _ hq' k' hk' hlt'
    intro h
    rcases h with h|h
    ·exact absurd h n1
    ·exact absurd h n2
 |none=>
  simp only
  cases h3:Mc.plc (qu F D' l) i with
  |none=>exact Av.refl
  |some k'=>
   obtain⟨hk',hki'⟩:=plc_some h3
   have hlt':(T:Int)<(qu F D' l)[k'].a :=by
    rcases Nat.lt_or_ge k' pre.length with h4|h4
    ·exfalso
     have h5:(pre++r)[k']'(by simp;omega)=(pre++r')[k']'(by simp;omega):=by rw [List.getElem_append_left h4,List.getElem_append_left h4]
     have h6:(qu F D l)[k']'(by rw [e];simp;omega)=(pre++r)[k']'(by simp;omega):=by congr 1
     have h7:(qu F D' l)[k']=(pre++r')[k']'(by simp;omega):=by congr 1
     exact plc_none.1 h1 _ (List.getElem_mem (by rw [e];simp;omega:k'<(qu F D l).length)) (by rw [h6,h5,←h7,hki'])
    ·have h4':(pre++r')[k']'(by rw [←e'];exact hk')=(qu F D' l)[k']:=by congr 1;exact e'.symm
     rw [←h4',List.getElem_append_right h4]
     exact hr' _ (List.getElem_mem _)
   have n2:=late D' _ hq' k' hk' hlt'
   intro h
   rcases h with h|h
   ·omega
   ·exact absurd h n2
end Go.Mc
