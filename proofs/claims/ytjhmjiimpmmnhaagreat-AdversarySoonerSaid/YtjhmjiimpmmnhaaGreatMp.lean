/- Lemmas of this seat. Conditions: as stated. -/
import Derived.Test.YtjhmjiimpmmnhaaGreatMq
import Derived.Test.YtjhmjiimpmmnhaaGreatT1
import Derived.Test.YtjhmjiimpmmnhaaGreatN6
set_option linter.unusedVariables false
set_option linter.unusedSimpArgs false
set_option maxHeartbeats 2000000
set_option maxRecDepth 4000
section
namespace Go.Mc
open Go.Pk Go.Np
def arQ (n:Nt) (p:List Pk) (D:Tp) (l:Int):Nat→List Wt
 |0=>[]
 |i+1=>match arL n p D l i with
  |none=>arQ n p D l i
  |some a=>arQ n p D l i++[⟨a,(p.getD i pk0).f,i⟩]
theorem arQ_mem {n:Nt} {p:List Pk} {D:Tp} {l:Int} {x:Wt}:∀{i:Nat},x∈arQ n p D l i↔x.i<i∧x.f=(p.getD x.i pk0).f ∧arL n p D l x.i=some x.a
 |0=>by simp [arQ]
 |i+1=>by
  have ih:=arQ_mem (n:=n) (p:=p) (D:=D) (l:=l) (x:=x) (i:=i)
  simp only [arQ]
  cases ha:arL n p D l i with
  |none=>
   simp only
   rw [ih]
   constructor
   ·rintro⟨h1,h2⟩;exact⟨by omega,h2⟩
   ·rintro⟨h1,h2,h3⟩
    refine⟨?_,h2,h3⟩
    rcases Nat.lt_succ_iff_lt_or_eq.1 h1 with h|h
    ·exact h
    ·rw [h,ha]at h3;cases h3
  |some a=>
   simp only
   rw [List.mem_append,ih,List.mem_singleton]
   constructor
   ·rintro(⟨h1,h2⟩|rfl)
    ·exact⟨by omega,h2⟩
    ·exact⟨by simp,rfl,ha⟩
   ·rintro⟨h1,h2,h3⟩
    rcases Nat.lt_succ_iff_lt_or_eq.1 h1 with h|h
    ·exact .inl ⟨h,h2,h3⟩
    ·refine .inr ?_
     rw [h,ha]at h3
     rw [h]at h2
     exact Wt.ext' (Option.some.inj h3).symm h2 h
theorem quL_mem {n:Nt} {p:List Pk} {D:Tp} {l:Int} {x:Wt}:∀{i:Nat},x∈quL n p D l i↔x.i<i∧x.f=(p.getD x.i pk0).f ∧arL n p D l x.i=some x.a
 |0=>by simp [quL]
 |i+1=>by
  have ih:=quL_mem (n:=n) (p:=p) (D:=D) (l:=l) (x:=x) (i:=i)
  simp only [quL]
  cases ha:arL n p D l i with
  |none=>
   simp only
   rw [ih]
   constructor
   ·rintro⟨h1,h2⟩;exact⟨by omega,h2⟩
   ·rintro⟨h1,h2,h3⟩
    refine⟨?_,h2,h3⟩
    rcases Nat.lt_succ_iff_lt_or_eq.1 h1 with h|h
    ·exact h
    ·rw [h,ha]at h3;cases h3
  |some a=>
   simp only
   rw [insW_mem,ih]
   constructor
   ·rintro(rfl|⟨h1,h2⟩)
    ·exact⟨by simp,rfl,ha⟩
    ·exact⟨by omega,h2⟩
   ·rintro⟨h1,h2,h3⟩
    rcases Nat.lt_succ_iff_lt_or_eq.1 h1 with h|h
    ·exact .inr ⟨h,h2,h3⟩
    ·refine .inl ?_
     rw [h,ha]at h3
     rw [h]at h2
     exact Wt.ext' (Option.some.inj h3).symm h2 h
theorem arQ_nodup {n:Nt} {p:List Pk} {D:Tp} {l:Int}:∀i,(arQ n p D l i).Nodup
 |0=>by simp [arQ]
 |i+1=>by
  simp only [arQ]
  cases ha:arL n p D l i with
  |none=>exact arQ_nodup i
  |some a=>
   simp only
   rw [List.nodup_append]
   refine⟨arQ_nodup i,by simp,fun x hx y hy=>?_⟩
   rw [List.mem_singleton]at hy
   have:=(arQ_mem.1 hx).1
   rintro rfl
   rw [hy]at this
   simp at this
theorem arQ_len {n:Nt} {p:List Pk} {D:Tp} {l:Int}:∀i,(arQ n p D l i).length ≤i
 |0=>by simp [arQ]
 |i+1=>by
  have:=arQ_len (n:=n) (p:=p) (D:=D) (l:=l) i
  simp only [arQ]
  cases arL n p D l i with
  |none=>simp only;omega
  |some a=>simp only [List.length_append,List.length_singleton];omega
theorem sort_quL {n:Nt} {p:List Pk} {D:Tp} {l:Int} {i:Nat} {q:List Wt} (hp:q.Perm (arQ n p D l i)) (hs:q.Pairwise fun x y=>¬y.lt x):q=quL n p D l i:=by
 have hnd:q.Nodup:=hp.nodup_iff.2 (arQ_nodup i)
 refine ord_uniq ?_ (quL_ok i).1 fun x=>by rw [hp.mem_iff,arQ_mem,quL_mem]
 have:q.Pairwise fun x y=>¬y.lt x∧x≠y:=List.Pairwise.and hs hnd
 refine this.imp fun {x y} h=>?_
 rcases Wt.lt_tri x y with k|k|k
 ·exact k
 ·exact absurd k h.2
 ·exact absurd k h.1
def cmpI (x y:Int):Int:=if x<y then-1 else if y<x then 1 else 0
def cmpW (x y:Wt):Int:=if cmpI x.a y.a≠0 then cmpI x.a y.a else if cmpI x.f y.f≠0 then cmpI x.f y.f else cmpI x.i y.i
theorem cmpW_lt {x y:Wt}:cmpW x y<0↔x.lt y:=by
 unfold cmpW cmpI Wt.lt
 constructor
 ·intro h
  (repeat' split at h)<;>omega
 ·intro h
  (repeat' split)<;>omega
end Go.Mc
end
section
namespace Go.Mc
open Go.Pk Go.Np
noncomputable def nteM (F:Tf) (Z:Li) (N:Nat) (l:Nat) (ms:List (List Int)) (S:Nat→Bool):List (List Int):=
 ms.mapIdx fun i row=>row.mapIdx fun h v=>if S i=true∧hp F l i=some h then pas F Z N (dR ms) l i else v
noncomputable def pasM (F:Tf) (Z:Li) (N:Nat) (l:Nat) (ms:List (List Int)):List (List Int):=nteM F Z N l ms fun _=>true
def ChgM (F:Tf) (Z:Li) (N:Nat) (l:Nat) (ms:List (List Int)) (S:Nat→Bool):Prop:=∃i h,i<F.np∧S i=true∧hp F l i=some h∧pas F Z N (dR ms) l i≠dR ms i h
variable {F:Tf} {Z:Li} {N l:Nat} {ms:List (List Int)} {S:Nat→Bool}
theorem nte_len:(nteM F Z N l ms S).length =ms.length:=by simp [nteM]
theorem nte_row {i:Nat}:(nteM F Z N l ms S).getD i []=(ms.getD i []).mapIdx fun h v=>if S i=true∧hp F l i=some h then pas F Z N (dR ms) l i else v:=by
 unfold nteM
 rw [List.getD_eq_getElem?_getD,List.getElem?_mapIdx,List.getD_eq_getElem?_getD]
 cases ms[i]? <;>simp
theorem nte_rlen {i:Nat}:((nteM F Z N l ms S).getD i []).length =(ms.getD i []).length :=by rw [nte_row];simp
theorem nte_at {i h:Nat} (hh:h<(ms.getD i []).length):dR (nteM F Z N l ms S) i h=if S i=true∧hp F l i=some h then pas F Z N (dR ms) l i else dR ms i h:=by
 show((nteM F Z N l ms S).getD i []).getD h (-1)=if S i=true∧hp F l i=some h then pas F Z N (dR ms) l i else(ms.getD i []).getD h (-1)
 rw [nte_row]
 generalize ms.getD i []=row at hh⊢
 simp only [List.getD_eq_getElem?_getD,List.getElem?_mapIdx,List.getElem?_eq_getElem hh,Option.map_some,Option.getD_some]
theorem rows_ext {ms ms':List (List Int)} (h1:ms.length=ms'.length) (h2:∀i,(ms.getD i []).length =(ms'.getD i []).length) (h3:∀i h,i<ms.length→h<(ms.getD i []).length →dR ms i h=dR ms' i h):ms=ms':=by
 refine List.ext_getElem h1 fun i a b=>?_
 have e1:ms.getD i []=ms[i]:=by rw [List.getD_eq_getElem?_getD,List.getElem?_eq_getElem a];rfl
 have e2:ms'.getD i []=ms'[i]:=by rw [List.getD_eq_getElem?_getD,List.getElem?_eq_getElem b];rfl
 have h2:=h2 i
 have h3:=h3 i
 unfold dR at h3
 rw [e1,e2]at h2
 rw [e1,e2]at h3
 refine List.ext_getElem h2 fun h c d=>?_
 have:=h3 h a c
 rw [List.getD_eq_getElem?_getD,List.getElem?_eq_getElem c,List.getD_eq_getElem?_getD,List.getElem?_eq_getElem d]at this
 exact this
theorem nte_none (h:∀i,i<ms.length→∀k,S i=true→hp F l i≠some k):nteM F Z N l ms S=ms:=
 rows_ext nte_len (fun _=>nte_rlen) fun i k hi hk=>by
  rw [nte_len]at hi
  rw [nte_rlen]at hk
  rw [nte_at hk,if_neg fun e=>h i hi k e.1 e.2]
theorem nte_step {S':Nat→Bool} {i h:Nat} (hi:i<ms.length) (hh:hp F l i=some h) (h1:S' i=true) (h2:∀j,j≠i→S' j=S j):
  (nteM F Z N l ms S).set i (((nteM F Z N l ms S).getD i []).set h (pas F Z N (dR ms) l i))=nteM F Z N l ms S':=by
 have hi':i<(nteM F Z N l ms S).length :=by rw [nte_len];exact hi
 have er:∀(r:List Int) (j:Nat),((nteM F Z N l ms S).set i r).getD j []=if j=i then r else(nteM F Z N l ms S).getD j []:=fun r j=>by
  rw [List.getD_eq_getElem?_getD,List.getElem?_set,List.getD_eq_getElem?_getD]
  by_cases e:i=j
  ·subst e;simp [hi']
  ·rw [if_neg e,if_neg (Ne.symm e)]
 refine rows_ext (by simp [nte_len]) (fun j=>?_) fun j k hj hk=>?_
 ·rw [er]
  split
  ·rename_i e;subst e;rw [List.length_set,nte_rlen,nte_rlen]
  ·rw [nte_rlen,nte_rlen]
 ·rw [er]at hk
  unfold dR
  rw [er]
  split
  ·rename_i e
   subst e
   rw [if_pos rfl,List.length_set]at hk
   have hk2:=hk
   rw [nte_rlen]at hk2
   have:=nte_at (F:=F) (Z:=Z) (N:=N) (l:=l) (S:=S') hk2
   have h0:=nte_at (F:=F) (Z:=Z) (N:=N) (l:=l) (S:=S) hk2
   unfold dR at this h0
   rw [this,List.getD_eq_getElem?_getD,List.getElem?_set]
   by_cases e:h=k
   ·subst e;rw [if_pos rfl,if_pos hk,if_pos ⟨h1,hh⟩];rfl
   ·rw [if_neg e,←List.getD_eq_getElem?_getD,h0,if_neg fun c=>e (by have:=c.2;rw [hh]at this;exact Option.some.inj this),if_neg fun c=>e (by have:=c.2;rw [hh]at this;exact Option.some.inj this)]
  ·rename_i e
   rw [if_neg e,nte_rlen]at hk
   have:=nte_at (F:=F) (Z:=Z) (N:=N) (l:=l) (S:=S') hk
   have h0:=nte_at (F:=F) (Z:=Z) (N:=N) (l:=l) (S:=S) hk
   unfold dR at this h0
   rw [this,h0,h2 j e]
theorem nte_skip {S':Nat→Bool} {i:Nat} (hh:hp F l i=none∨S i=true) (h1:S' i=true) (h2:∀j,j≠i→S' j=S j):nteM F Z N l ms S=nteM F Z N l ms S':=
 rows_ext (by rw [nte_len,nte_len]) (fun _=>by rw [nte_rlen,nte_rlen]) fun j k hj hk=>by
  rw [nte_rlen]at hk
  rw [nte_at hk,nte_at hk]
  by_cases e:j=i
  ·subst e
   rcases hh with hh|hh
   ·rw [hh];simp
   ·rw [hh,h1]
  ·rw [h2 j e]
theorem nte_old {i h:Nat} (hh:h<(ms.getD i []).length) (hS:S i=false):dR (nteM F Z N l ms S) i h=dR ms i h:=by
 rw [nte_at hh,if_neg];rintro⟨e,_⟩;rw [hS]at e;cases e
theorem chg_step {S':Nat→Bool} {i h:Nat} (hi:i<F.np) (hh:hp F l i=some h) (h1:S' i=true) (h2:∀j,j≠i→S' j=S j):ChgM F Z N l ms S'↔ChgM F Z N l ms S∨pas F Z N (dR ms) l i≠dR ms i h:=by
 constructor
 ·rintro⟨j,k,a,b,c,d⟩
  by_cases e:j=i
  ·subst e
   have:h=k:=by rw [hh]at c;exact Option.some.inj c
   subst this
   exact .inr d
  ·exact .inl ⟨j,k,a,by rw [←h2 j e];exact b,c,d⟩
 ·rintro(⟨j,k,a,b,c,d⟩|h)
  ·refine⟨j,k,a,?_,c,d⟩
   by_cases e:j=i
   ·subst e;exact h1
   ·rw [h2 j e];exact b
  ·exact⟨i,_,hi,h1,hh,h⟩
theorem chg_skip {S':Nat→Bool} {i:Nat} (hh:hp F l i=none∨S i=true) (h1:S' i=true) (h2:∀j,j≠i→S' j=S j):ChgM F Z N l ms S'↔ChgM F Z N l ms S:=by
 constructor
 ·rintro⟨j,k,a,b,c,d⟩
  by_cases e:j=i
  ·subst e
   rcases hh with hh|hh
   ·rw [hh]at c;cases c
   ·exact⟨j,k,a,hh,c,d⟩
  ·exact⟨j,k,a,by rw [←h2 j e];exact b,c,d⟩
 ·rintro⟨j,k,a,b,c,d⟩
  refine⟨j,k,a,?_,c,d⟩
  by_cases e:j=i
  ·subst e;exact h1
  ·rw [h2 j e];exact b
structure ShM (F:Tf) (N:Nat) (ms:List (List Int)):Prop where
 l:ms.length=F.np
 r:∀i,i<F.np→(ms.getD i []).length =(F.rt i).length
 b:∀i h,i<F.np→h<(F.rt i).length →-1≤dR ms i h∧dR ms i h<N
theorem pasM_sh (h:ShM F N ms):ShM F N (pasM F Z N l ms):=
 ⟨by rw [pasM,nte_len,h.l],fun i hi=>by rw [pasM,nte_rlen,h.r i hi],fun i k hi hk=>by
  rw [pasM,nte_at (by rw [h.r i hi];exact hk)]
  split
  ·rcases pas_bd F Z N (dR ms) l i with e|⟨e1,e2,_⟩
   ·have:=h.b i k hi hk
    omega
   ·omega
  ·exact h.b i k hi hk⟩
theorem pasM_at (hR:Rts F) (hr:∀i,i<F.np→(ms.getD i []).length =(F.rt i).length) {i k:Nat} (hi:i<F.np) (hk:k<(F.rt i).length):dR (pasM F Z N l ms) i k=if lin F i k=l then pas F Z N (dR ms) l i else dR ms i k:=by
 rw [pasM,nte_at (by rw [hr i hi];exact hk)]
 by_cases e:lin F i k=l
 ·rw [if_pos e,if_pos ⟨rfl,by rw [←e];exact hp_lin hR hi hk⟩]
 ·rw [if_neg e,if_neg fun c=>e (hp_some c.2).2]
noncomputable def trR (F:Tf) (Z:Li) (N:Nat):List (List Int):=(List.range F.np).map fun i=>(List.range (F.rt i).length).map fun h=>tr F Z N i h
theorem trR_at {i h:Nat} (hi:i<F.np) (hh:h<(F.rt i).length):dR (trR F Z N) i h=tr F Z N i h:=by
 unfold dR trR
 simp [List.getD_eq_getElem?_getD,hi,hh]
theorem trR_rlen {i:Nat} (hi:i<F.np):((trR F Z N).getD i []).length =(F.rt i).length :=by
 unfold trR
 simp [List.getD_eq_getElem?_getD,hi]
theorem trR_len:(trR F Z N).length =F.np:=by simp [trR]
theorem trR_eq (hl:ms.length=F.np) (hr:∀i,i<F.np→(ms.getD i []).length =(F.rt i).length) (e:∀i k,i<F.np→k<(F.rt i).length →dR ms i k=tr F Z N i k):ms=trR F Z N:=
 rows_ext (by rw [trR_len,hl]) (fun i=>by
  by_cases hi:i<F.np
  ·rw [trR_rlen hi,hr i hi]
  ·rw [List.getD_eq_getElem?_getD,List.getElem?_eq_none (by rw [hl];omega),List.getD_eq_getElem?_getD,List.getElem?_eq_none (by rw [trR_len];omega)]) fun i k hi hk=>by
  rw [hl]at hi
  rw [hr i hi]at hk
  rw [e i k hi hk,trR_at hi hk]
def AgL (F:Tf) (Z:Li) (N k l:Nat) (D:Tp):Prop:=∀i h,i<F.np→h<(F.rt i).length →Av (if lin F i h<l then k+1 else k) (D i h) (tr F Z N i h)
theorem AgL.ag {k l:Nat} {D:Tp} (h:AgL F Z N k l D):Ag F k D (tr F Z N):=fun i h1 a b=>(h i h1 a b).le (by split<;>omega)
theorem AgL.step (hR:Rts F) {k l:Nat} (hS:ShM F N ms) (h:AgL F Z N k l (dR ms)):AgL F Z N k (l+1) (dR (pasM F Z N l ms)):=by
 intro i j hi hj
 rw [pasM_at hR hS.r hi hj]
 by_cases e:lin F i j=l
 ·rw [if_pos e,if_pos (by omega),←e]
  exact tr_step hR Z h.ag hi hj
 ·rw [if_neg e]
  have:=h i j hi hj
  by_cases c:lin F i j<l
  ·rw [if_pos (by omega)];rw [if_pos c]at this;exact this
  ·rw [if_neg (by omega)];rw [if_neg c]at this;exact this
theorem AgL.zero {k:Nat} {D:Tp} (h:Ag F k D (tr F Z N)):AgL F Z N k 0 D:=fun i j hi hj=>by rw [if_neg (by omega)];exact h i j hi hj
def LnP (F:Tf) (Z:Li):Prop:=∀i h,i<F.np→h<(F.rt i).length →lin F i h<Z.n
theorem AgL.done {k:Nat} {D:Tp} (hL:LnP F Z) (h:AgL F Z N k Z.n D):Ag F (k+1) D (tr F Z N):=fun i j hi hj=>by have:=h i j hi hj;rw [if_pos (hL i j hi hj)]at this;exact this
theorem ag_end (hR:Rts F) {k:Nat} (hk:N≤k) (hS:ShM F N ms) (h:Ag F k (dR ms) (tr F Z N)):ms=trR F Z N:=by
 refine trR_eq hS.l hS.r fun i j hi hj=>?_
 have h1:=h i j hi hj
 have h2:=hS.b i j hi hj
 rcases tr_bd hR Z N hi hj with e|⟨e1,e2,_⟩
 ·by_cases c:0≤dR ms i j
  ·exact h1 (.inl ⟨c,by omega⟩)
  ·omega
 ·exact h1 (.inr ⟨e1,by omega⟩)
theorem pasM_same (hR:Rts F) (hl:ms.length=F.np) (hr:∀i,i<F.np→(ms.getD i []).length =(F.rt i).length) (h:¬ChgM F Z N l ms fun _=>true):pasM F Z N l ms=ms:=
 rows_ext (by rw [pasM,nte_len]) (fun _=>by rw [pasM,nte_rlen]) fun i j hi hj=>by
  rw [pasM,nte_len,hl]at hi
  rw [pasM,nte_rlen,hr i hi]at hj
  rw [pasM_at hR hr hi hj]
  split
  ·rename_i e
   refine Classical.byContradiction fun hne=>h ⟨i,j,hi,rfl,?_,hne⟩
   rw [←e];exact hp_lin hR hi hj
  ·rfl
theorem con_end (hR:Rts F) (hL:LnP F Z) (hl:ms.length=F.np) (hr:∀i,i<F.np→(ms.getD i []).length =(F.rt i).length) (h:∀l,l<Z.n→¬ChgM F Z N l ms fun _=>true):ms=trR F Z N:=by
 have hC:Con F Z N (dR ms):=fun i j hi hj=>by
  refine Classical.byContradiction fun hne=>h (lin F i j) (hL i j hi hj) ⟨i,j,hi,rfl,hp_lin hR hi hj,fun e=>hne e.symm⟩
 exact trR_eq hl hr fun i j hi hj=>tr_uniq hR Z hC i j hi hj
theorem tr_fix (hR:Rts F):¬ChgM F Z N l (trR F Z N) fun _=>true:=by
 rintro⟨i,h,hi,_,hh,hne⟩
 obtain⟨h1,h2⟩:=hp_some hh
 have hS:Same F (dR (trR F Z N)) (tr F Z N) l N:=same_of (fun i j hi hj=>by rw [trR_at hi hj];exact Av.refl) (tr_mon hR Z N) l
 rw [trR_at hi h1,pas_end ((pas_same (N:=N) hS i).le (Nat.le_succ N)),tr_con hR Z N i h hi h1,h2]at hne
 exact hne rfl
theorem trR_sh (hR:Rts F):ShM F N (trR F Z N):=
 ⟨trR_len,fun i hi=>trR_rlen hi,fun i h hi hh=>by
  rw [trR_at hi hh]
  rcases tr_bd hR Z N hi hh with e|⟨e1,e2,_⟩<;>omega⟩
end Go.Mc
end
namespace Go.Proofs.YtjhmjiimpmmnhaaGreat
section
open Go.Sx Go.Pk Go.Mc Go.Np
abbrev nbx (n:Nt):Chunk:= .box [.psl 1 (strs n.nm), .psl 5 (lns n.ln), .psl 8 (fls n.fl)]
theorem sck_steps {n:Nt} {p:List Pk} (h0:chkN n=0) (h1:¬60<p.length) {i:Nat} (hi:i<p.length) (hv:sckN n p i=0):
  (bdP n (p.getD i pk0)→sck n p=2)∧(¬bdP n (p.getD i pk0)→(p.getD i pk0).t <lst p i→sck n p=7)∧(¬bdP n (p.getD i pk0)→¬(p.getD i pk0).t <lst p i→sckN n p (i+1)=0):=by
 have hs0:sckN n p (i+1)=if bdP n (p.getD i pk0)then 2 else if(p.getD i pk0).t <lst p i then 7 else 0:=by simp only [sckN];rw [if_neg (by omega)]
 have hE:sckN n p (i+1)≠0→sck n p=sckN n p (i+1):=fun h=>by
  unfold sck;rw [if_neg (by omega),if_neg h1];exact sckN_ge (by omega) h
 refine⟨fun h=>?_,fun h h2=>?_,fun h h2=>?_⟩
 ·rw [if_pos h]at hs0;rw [hE (by omega),hs0]
 ·rw [if_neg h,if_pos h2]at hs0;rw [hE (by omega),hs0]
 ·rw [if_neg h,if_neg h2]at hs0;exact hs0
theorem SChk_ok (n:Nt) (hn:NL n) (p:List Pk) (hp:p.length≤9223372036854775807):Ctr Tryz.prog 74 [ntv n, .psl 3 (pks p)] [] (fun r o=>o=[]∧r=i64 (sck n p)):=by
 refine fI 0 Tryz.func74 ?_
 have hpl:=pks_len p
 have hfl:=fll n.fl
 have hnf:=hn.fl
 (repeat' (conv=>whnf);first|refine aC ?_ ?_<;>intro<;>try omega|refine z2_T1 ?_|fail);all_goals try (conv=>whnf)
 refine aK [] (Check_ok n hn) ?_
 have h6:chkN n≠0→sck n p=6:=fun h=>by unfold sck;rw [if_pos h]
 have h3:chkN n=0→60<p.length→sck n p=3:=fun h h'=>by unfold sck;rw [if_neg (by omega),if_pos h']
 have hz:chkN n=0→¬60<p.length→sckN n p p.length=0→sck n p=0:=fun h h' h2=>by unfold sck;rw [if_neg (by omega),if_neg h',h2]
 have hst:=fun h0 h1 i=>sck_steps (n:=n) (p:=p) h0 h1 (i:=i)
 generalize sck n p=E at*
 generalize chkN n=e at*
 (repeat' (conv=>whnf);first|refine aC ?_ ?_<;>intro<;>try omega|refine z2_T1 ?_|fail);all_goals try (conv=>whnf)
 ·exact⟨rfl,by rw [h6 (by assumption)];rfl⟩
 ·exact⟨rfl,by rw [h3 (by omega) (by omega)];rfl⟩
 refine LoopOb.mk (Y:=Nat) (st:=fun i=>⟨[(17,i64 i),(16,i64 (pks p).length),(15, .psl 3 (pks p)),(5,i64 (lst p i)),(2, .ptr 0 0)],[nbx n]⟩)
  (inv:=fun i=>i≤p.length∧sckN n p i=0) (fun i=>p.length-i) 0 [0] ⟨by omega,rfl⟩ (by(exact aL)) ?_
 rintro i ⟨hi,hv⟩
 (repeat' (conv=>whnf);first|refine z2_T1 ?_|fail);all_goals try (conv=>whnf)
 refine CondOb.mk (fun hlt=>?_) (fun hlt=>?_)
 ·have hil:i<p.length:=by omega
  have hg:=pks_get hil
  obtain⟨s1,s2,s3⟩:=hst (by omega) (by omega) i hil hv
  clear hst h6 h3 hz
  have hl:lst p (i+1)=(p.getD i pk0).t :=rfl
  unfold bdP pfl at s1 s2 s3
  generalize p.getD i pk0=x at*
  generalize lst p i=y at*
  by_cases hfr:x.f<0∨(n.fl.length:Int)≤x.f
  ·(repeat' (conv=>whnf);first|refine⟨i,_,rfl,hg,?_⟩|refine aC ?_ ?_<;>intro<;>try omega|refine z2_T1 ?_|fail);all_goals try (conv=>whnf)
   all_goals first
    |exact⟨rfl,by rw [s1 (.inl (by omega))];rfl⟩
    |trace_state
  ·have hfg:=flg (l:=n.fl) (i:=x.f.toNat) (by omega)
   generalize n.fl.getD x.f.toNat fl0=f at*
   (repeat' (conv=>whnf);first|refine⟨x.f.toNat,_,by omega,hfg,?_⟩|refine⟨i,_,rfl,hg,?_⟩|refine aC ?_ ?_<;>intro<;>try omega|refine z2_T1 ?_|fail);all_goals try (conv=>whnf)
   all_goals first
    |exact⟨rfl,by rw [s1 (by omega)];rfl⟩
    |exact⟨rfl,by rw [s2 (by omega) (by omega)];rfl⟩
    |exact⟨i+1,[0],⟨by omega,s3 (by omega) (by omega)⟩,by omega,by rw [hl];(exact aL)⟩
    |trace_state
 ·obtain rfl:i=p.length:=by omega
  (repeat' (conv=>whnf);first|refine aC ?_ ?_<;>intro<;>try omega|refine z2_T1 ?_|fail);all_goals try (conv=>whnf)
  exact⟨rfl,by rw [hz (by omega) (by omega) hv];rfl⟩
end
end Go.Proofs.YtjhmjiimpmmnhaaGreat
