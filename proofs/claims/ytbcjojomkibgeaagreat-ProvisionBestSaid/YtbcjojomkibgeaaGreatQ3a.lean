/- Lemmas of this seat. Conditions: as stated. -/
import Derived.Test.YtbcjojomkibgeaaGreatQ1
import Derived.Test.YtbcjojomkibgeaaGreatS7
set_option linter.unusedVariables false
set_option linter.unusedSimpArgs false
set_option maxHeartbeats 2000000
set_option maxRecDepth 4000
namespace Go.Proofs.YtbcjojomkibgeaaGreat
open Go.Sx Go.Fq Go.Dt
theorem vcs_app {w:Nat} {g:Nat→Int} {v:Int}:vcs w g++[[i64 v]]=vcs (w+1) (up g w v):=by
 apply List.ext_getElem?
 intro j
 rcases Nat.lt_trichotomy j w with h|h|h
 ·rw [List.getElem?_append_left (by simp [vcs];exact h),vcs_get h,vcs_get (by omega)]
  simp [up,Nat.ne_of_lt h]
 ·subst h
  rw [List.getElem?_append_right (by simp [vcs]),vcs_get (by omega)];simp [vcs,up]
 ·rw [List.getElem?_eq_none (by simp [vcs];omega),List.getElem?_eq_none (by simp [vcs];omega)]
def D1 (p:Pr):Prop:=(∀f∈p.c,f.2=1)∧∀w∈p.r,(∀f∈w.1,f.2=1)∧w.2.2.2=1
structure BuA (p:Pr) (i:Nat) (q:Prop) (f:Nat→Nat→Int) (bs tu sl:Nat→Int) (co:Int):Prop where
 hb:∀a<i,∀b,B62 (f a b)
 hs:∀a<i,bs a=p.c.length+p.r.length+a
 ht:∀a<i,tu a=1∨tu a= -1
 hl:∀a<i,1≤sl a∧B62 (sl a)
 hc:1≤co∧B62 co
 ex:¬q→(∀f∈p.c,f.2∣co)∧∀a<i,RowJ p.c.length p.r.length a (p.r.getD a rw0) (tu a*sl a) (f a)
 one:D1 p→¬q∧co=1∧∀a<i,sl a=1
structure RwA (w:Rw) (k:Int) (q:Prop) (j:Nat) (g:Nat→Int):Prop where
 bd:∀a,B62 (g a)
 z:∀a,j≤a→g a=0
 ex:¬q→∀a<j,g a=(w.1.getD a (0,1)).1 *(k/(w.1.getD a (0,1)).2)
theorem RwA.step {w:Rw} {k:Int} {q q':Prop} {j:Nat} {g:Nat→Int} {v:Int} (h:RwA w k q j g) (c:Cal q q' ((w.1.getD j (0,1)).1 *(k/(w.1.getD j (0,1)).2)) v):RwA w k q' (j+1) (up g j v):=by
 refine⟨fun a=>?_,fun a ha=>?_,fun hq a ha=>?_⟩
 ·unfold up;split
  ·exact c.bd
  ·exact h.bd a
 ·unfold up;rw [if_neg (by omega)];exact h.z a (by omega)
 ·obtain⟨h1,h2⟩:=c.ex hq
  unfold up;split
  ·rename_i e;subst e;exact h2
  ·exact h.ex h1 a (by omega)
def slk (n i:Nat) (w:Rw) (g:Nat→Int):Nat→Int:=if w.2.1=1 then up g (n+i) 1 else if w.2.1=2 then up g (n+i) (-1)else g
def ngv (v:Int) (g:Nat→Int) (j:Nat):Int:=if v<0 then 0-g j else g j
def trn (v:Int):Int:=if v<0 then-1 else 1
theorem row_fin {n m i:Nat} {w:Rw} {k:Int} {q q':Prop} {g:Nat→Int} {v:Int} (hi:i<m) (hw:w.1.length=n) (hvw:∀f∈w.1,VF f) (hvb:VF w.2.2) (k1:1≤k) (h:RwA w k q n g) (hd:¬q→∀f∈w.1++[w.2.2],f.2∣k) (c:Cal q q' (w.2.2.1*(k/w.2.2.2)) v):
  (∀a,B62 (up (ngv v (up (slk n i w g) (n+2*m) v)) (n+m+i) 1 a))∧(¬q'→RowJ n m i w (trn v*k) (up (ngv v (up (slk n i w g) (n+2*m) v)) (n+m+i) 1)):=by
 have hsl:∀a,slk n i w g a=if a=n+i then sns w else g a:=fun a=>by
  unfold slk sns up
  by_cases h1:w.2.1=1
  ·rw [if_pos h1,if_pos h1]
  ·rw [if_neg h1,if_neg h1]
   by_cases h2:w.2.1=2
   ·rw [if_pos h2,if_pos h2]
   ·rw [if_neg h2,if_neg h2]
    split
    ·rename_i e;rw [e];exact h.z _ (by omega)
    ·rfl
 have hsb:B62 (sns w):=by
  unfold sns
  split
  ·decide
  ·split<;>decide
 have htr:trn v=1∨trn v= -1:=by unfold trn;split<;>simp
 have hng:∀a,ngv v (up (slk n i w g) (n+2*m) v) a=trn v*(if a=n+2*m then v else if a=n+i then sns w else g a):=fun a=>by
  unfold ngv trn up
  rw [hsl]
  split<;>omega
 have hF:∀a,up (ngv v (up (slk n i w g) (n+2*m) v)) (n+m+i) 1 a=if a=n+m+i then 1 else trn v*(if a=n+2*m then v else if a=n+i then sns w else g a):=fun a=>by
  rw [←hng];rfl
 refine⟨fun a=>?_,fun hq=>?_⟩
 ·rw [hF]
  have cb:=c.bd
  have gb:=h.bd a
  split
  ·decide
  ·split
   ·rcases htr with e|e<;>rw [e]<;>unfold B62 at* <;>omega
   ·split
    ·rcases htr with e|e<;>rw [e]<;>unfold B62 at* <;>omega
    ·rcases htr with e|e<;>rw [e]<;>unfold B62 at* <;>omega
 ·obtain⟨q0,hv⟩:=c.ex hq
  have hdv:=hd q0
  have hsg:sg (trn v*k)=trn v:=by
   unfold sg
   rcases htr with e|e<;>rw [e]
   ·rw [if_neg (by omega)]
   ·rw [if_pos (by omega)]
  refine⟨by rcases htr with e|e<;>rw [e]<;>omega,fun a ha=>?_,?_,?_,fun a ha=>?_,fun a ha=>?_⟩
  ·rw [hF,if_neg (by omega),if_neg (by omega),if_neg (by omega),h.ex q0 a ha]
   have hmem:w.1.getD a (0,1)∈w.1:=by rw [List.getD_eq_getElem?_getD,List.getElem?_eq_getElem (by omega)];exact List.getElem_mem _
   rw [Rat.intCast_mul,iv_val (hvw _ hmem) (hdv _ (List.mem_append_left _ hmem)),Rat.intCast_mul];grind
  ·have e:(v:Rat)=(k:Rat)*val w.2.2:=by
    rw [hv];exact iv_val hvb (hdv _ (List.mem_append_right _ (by simp)))
   rw [hF,if_neg (by omega),if_pos rfl,Rat.intCast_mul,Rat.intCast_mul];grind
  ·rw [hF,if_neg (by omega),if_pos rfl];unfold trn;split<;>omega
  ·rw [hF,if_neg (by omega),if_neg (by omega),hsg]
   by_cases e:a=i
   ·rw [if_pos e,if_pos (by omega)]
   ·rw [if_neg e,if_neg (by omega),h.z _ (by omega)];omega
  ·rw [hF]
   by_cases e:a=i
   ·rw [if_pos e,if_pos (by omega)]
   ·rw [if_neg e,if_neg (by omega),if_neg (by omega),if_neg (by omega),h.z _ (by omega)];omega
theorem buA_zero {p:Pr} {q:Prop} {co:Int} {f:Nat→Nat→Int} {bs tu sl:Nat→Int} (h:WhP p.c False q co):BuA p 0 q f bs tu sl co:=
 ⟨by simp,by simp,by simp,by simp,⟨h.k1,h.bd⟩,fun hq=>⟨(h.ex hq).2,by simp⟩,fun ho=>by
  obtain⟨a1,a2⟩:=h.one ho.1
  have hq:¬q:=fun hq=>a1 hq
  exact⟨hq,a2 hq,by simp⟩⟩
theorem BuA.next {p:Pr} {i:Nat} {q q':Prop} {f:Nat→Nat→Int} {bs tu sl:Nat→Int} {co k tn:Int} {g:Nat→Int} (h:BuA p i q f bs tu sl co)
  (hn:(∀b,B62 (g b))∧(tn=1∨tn= -1)∧(1≤k∧B62 k)∧(¬q'→¬q∧RowJ p.c.length p.r.length i (p.r.getD i rw0) (tn*k) g)∧(D1 p→¬q→¬q'∧k=1)):
  BuA p (i+1) q' (up2 f i g) (up bs i (p.c.length+p.r.length+i)) (up tu i tn) (up sl i k) co:=by
 obtain⟨n1,n2,n3,n4,n5⟩:=hn
 have cs:∀a,a<i+1→a=i∨(a<i∧a≠i):=fun a ha=>by omega
 refine⟨fun a ha b=>?_,fun a ha=>?_,fun a ha=>?_,fun a ha=>?_,h.hc,fun hq=>?_,fun ho=>?_⟩
 ·unfold up2
  rcases cs a ha with e|⟨h1,h2⟩
  ·rw [if_pos e];exact n1 b
  ·rw [if_neg h2];exact h.hb a h1 b
 ·unfold up
  rcases cs a ha with e|⟨h1,h2⟩
  ·rw [if_pos e,e]
  ·rw [if_neg h2];exact h.hs a h1
 ·unfold up
  rcases cs a ha with e|⟨h1,h2⟩
  ·rw [if_pos e];exact n2
  ·rw [if_neg h2];exact h.ht a h1
 ·unfold up
  rcases cs a ha with e|⟨h1,h2⟩
  ·rw [if_pos e];exact n3
  ·rw [if_neg h2];exact h.hl a h1
 ·obtain⟨h1,h2⟩:=n4 hq
  obtain⟨h3,h4⟩:=h.ex h1
  refine⟨h3,fun a ha=>?_⟩
  rcases cs a ha with e|⟨h5,h6⟩
  ·subst e
   have e1:up tu a tn a=tn:=by simp [up]
   have e2:up sl a k a=k:=by simp [up]
   have e3:up2 f a g a=g:=by funext b;simp [up2]
   rw [e1,e2,e3];exact h2
  ·have e1:up tu i tn a=tu a:=by simp [up,h6]
   have e2:up sl i k a=sl a:=by simp [up,h6]
   have e3:up2 f i g a=f a:=by funext b;simp [up2,h6]
   rw [e1,e2,e3];exact h4 a h5
 ·obtain⟨h1,h2,h3⟩:=h.one ho
  obtain⟨h4,h5⟩:=n5 ho h1
  refine⟨h4,h2,fun a ha=>?_⟩
  unfold up
  rcases cs a ha with e|⟨h5',h6⟩
  ·rw [if_pos e];exact h5
  ·rw [if_neg h6];exact h3 a h5'
end Go.Proofs.YtbcjojomkibgeaaGreat
