/- Lemmas of this seat. Conditions: as stated. -/
import Derived.Test.YtbcjojomkibgeaaGreatY4
import Derived.Test.YtbcjojomkibgeaaGreatN15
import Derived.Test.YtbcjojomkibgeaaGreatS7
set_option linter.unusedVariables false
set_option linter.unusedSimpArgs false
set_option maxHeartbeats 2000000
set_option maxRecDepth 4000
namespace Go.Proofs.YtbcjojomkibgeaaGreat
open Go.Sx Go.Fq Go.Np Go.Pv Go.Dt
theorem ShS.chk {p:Pr} {X:List F} {s:Slt} {e:Int} (h:ShS p X s e):Chk p s:=by
 cases h with
 |opt h hc hv hs=>subst hv;exact .inl ⟨rfl,rfl,h,hc,rfl,rfl⟩
 |inf h hs=>exact .inr (.inr ⟨rfl,rfl,rfl,rfl,h⟩)
theorem ShS.worth {n:Nt} {l:List Dm} {X:List F} {s:Slt} (h:ShS (prg n l) X s 0):prod (wts l) X=(-s.2.2.1.1,s.2.2.1.2,0)∧s.1=1∧Feas (prg n l) X∧VF s.2.2.1∧RSol (prg n l) 1 (val s.2.2.1):=by
 cases h with
 |opt h hc hv hs=>
  have k4:=(prod_ok' hc).2.2.2.1
  subst hv
  refine⟨?_,rfl,h.1,k4,hs⟩
  rw [worth_c]at hc⊢
  have:(prod (wts l) X).2.2 =0:=hc
  show _=(- -(prod (wts l) X).1,(prod (wts l) X).2.1,0)
  rw [Int.neg_neg,←this]
theorem sm_nil {k:Nat} {a:Nat→Rat}:sm k (fun j=>a j*(0:Rat))=0:=by
 rw [sm_congr (g:=fun _=>0) (fun j _=>by grind),sm_zero]
theorem val_i {x:Int}:val (x,1)=x:=val_int x
theorem free_pt {n:Nt} {l:List Dm} (h:pchk n l=0) (h0:∀d∈l,d.lo=0):RFeas (prg n l) (fun _=>0):=by
 obtain⟨h1,h2,h3,h4,h5⟩:=pchk_zero h
 obtain⟨g1,g2,g3⟩:=chk_lines h1
 refine rfeas_iff.2 ⟨fun _ _=>Rat.le_refl,fun w hw=>?_⟩
 unfold rk
 rw [sm_nil]
 rcases mem_prg.1 hw with⟨j,hj,_,rfl⟩|⟨j,hj,rfl|rfl⟩
 ·have:=g3 j hj
  refine⟨fun _=>?_,fun e=>by dsimp only at e;omega,fun e=>by dsimp only at e;omega⟩
  rw [val_i];exact Rat.intCast_nonneg.2 (by omega)
 ·have:=h0 _ (Go.Np.getD_in (d:=dm0) hj)
  refine⟨fun e=>by dsimp only at e;omega,fun _=>?_,fun e=>by dsimp only at e;omega⟩
  rw [val_i,this];exact Rat.le_refl
 ·have:=dm_in h5 hj;unfold DmOK at this
  refine⟨fun _=>?_,fun e=>by dsimp only at e;omega,fun e=>by dsimp only at e;omega⟩
  rw [val_i];exact Rat.intCast_nonneg.2 (by omega)
theorem ShS.free {n:Nt} {l:List Dm} {X:List F} {s:Slt} {e:Int} (h:ShS (prg n l) X s e) (hk:pchk n l=0) (h0:∀d∈l,d.lo=0):e=0:=by
 cases h with
 |opt=>rfl
 |inf h hs=>exact absurd (free_pt hk h0) ((hs.sem (VP.sn h.1.1)).inf rfl _)
def rsN (n:Nt) (k:Nat) (c:Int):Nt:={n with ln:=n.ln.set k {n.ln.getD k ln0 with c:=(n.ln.getD k ln0).c +c}}
theorem rs_get {n:Nt} {k j:Nat} {c:Int} (hk:k<n.ln.length):(rsN n k c).ln.getD j ln0=if j=k then {n.ln.getD k ln0 with c:=(n.ln.getD k ln0).c +c}else n.ln.getD j ln0:=by
 unfold rsN
 simp only [List.getD_eq_getElem?_getD,List.getElem?_set]
 by_cases e:k=j
 ·subst e;simp [hk]
 ·rw [if_neg e,if_neg (fun h=>e h.symm)]
theorem rs_users {n:Nt} {k:Nat} {c:Int} {i:Int}:users (rsN n k c) i=users n i:=by
 have:∀m,usr (rsN n k c) i m=usr n i m:=by
  intro m
  induction m with
  |zero=>rfl
  |succ m ih=>simp only [usr];rw [ih];rfl
 exact this _
theorem rs_more {n:Nt} {l:List Dm} {k:Nat} {c:Int} {x:Nat→Rat} (hk:k<n.ln.length) (hc:0≤c) (h:RFeas (prg n l) x):RFeas (prg (rsN n k c) l) x:=by
 obtain⟨h0,h1⟩:=rfeas_iff.1 h
 refine rfeas_iff.2 ⟨h0,fun w hw=>?_⟩
 rcases mem_prg.1 hw with⟨j,hj,hu,rfl⟩|⟨j,hj,hw'⟩
 ·rw [rs_users]at hu
  have hj':j<n.ln.length:=by simpa [rsN]using hj
  have:=h1 _ (mem_prg.2 (.inl ⟨j,hj',hu,rfl⟩))
  unfold rk at this⊢
  refine⟨fun e=>?_,fun e=>by dsimp only at e;omega,fun e=>by dsimp only at e;omega⟩
  have t:=this.1 rfl
  have e1:(crow (hops (rsN n k c) j) l.length)=crow (hops n j) l.length:=rfl
  rw [e1]
  refine Rat.le_trans t ?_
  rw [val_i,val_i,rs_get hk]
  refine Rat.intCast_le_intCast.2 ?_
  split
  ·rename_i e;subst e;dsimp only;omega
  ·exact Int.le_refl _
 ·exact h1 _ (mem_prg.2 (.inr ⟨j,hj,hw'⟩))
theorem free_le {n:Nt} {l:List Dm} {k:Nat} {c:Int} {v v':F} (hk:k<n.ln.length) (hc:0≤c) (hv:VP (prg n l)) (hv':VP (prg (rsN n k c) l)) (h:RSol (prg n l) 1 (val v)) (h':RSol (prg (rsN n k c) l) 1 (val v')) (f:VF v) (f':VF v'):fcmp (-v.1,v.2) (-v'.1,v'.2)≤0:=by
 obtain⟨x,hx,ex⟩:=(h.sem (VP.sn hv)).att rfl
 have:=(h'.sem (VP.sn hv')).low rfl x (rs_more hk hc hx)
 have e:cst' (prg (rsN n k c) l) x=cst' (prg n l) x:=rfl
 rw [e,ex]at this
 rw [fcmp_le (show VF (-v.1,v.2)from ng_vf.2 f) (show VF (-v'.1,v'.2)from ng_vf.2 f'),show val (-v.1,v.2)= -val v from ng_val (f:=v),show val (-v'.1,v'.2)= -val v' from ng_val (f:=v')]
 grind
theorem rs_ntg {n:Nt} {q k:Nat} {c:Int} (g:NtG q n) (hk:k<n.ln.length) (h0:0≤c) (h:(n.ln.getD k ln0).c +c≤4000):NtG q (rsN n k c):=by
 have hlen:(rsN n k c).ln.length =n.ln.length:=by simp [rsN]
 refine⟨g.k1,by rw [hlen];exact g.ll,by rw [hlen];exact g.nl,fun i hi=>g.nm i (by rw [hlen]at hi;exact hi),fun x hx=>?_,g.fl,g.fn,fun f hf=>by rw [hlen];exact g.fg f hf⟩
 obtain⟨j,hj,rfl⟩:=List.getElem_of_mem hx
 have e:=rs_get (n:=n) (k:=k) (j:=j) (c:=c) hk
 rw [List.getD_eq_getElem?_getD,List.getElem?_eq_getElem hj,Option.getD_some]at e
 rw [e]
 have hg:=g.le _ (Go.Np.getD_in (d:=ln0) hk)
 split
 ·refine⟨?_,hg.2⟩
  have h1:=hg.1
  unfold lnErr at h1⊢
  dsimp only at h1⊢
  split at h1
  ·contradiction
  ·rename_i c1
   split at h1
   ·contradiction
   ·rename_i c2
    rw [if_neg c1,if_neg (by omega)]
    exact h1
 ·exact g.le _ (Go.Np.getD_in (by rw [←hlen];exact hj))
def shF (i:Nat):Fl:=⟨fname i,[0],0,1,1,[0,4],1,0⟩
def shN:Nt:=⟨[lname 0],[⟨1,10,1,[],[]⟩],[shF 0,shF 1]⟩
def shL:List Dm:=[⟨0,8,1⟩,⟨0,8,2⟩]
theorem sh_g:NtG 1 shN:=by
 have hf:∀i,FlG 1 1 (shF i):=fun i=>⟨⟨Int.le_refl _,by show(0:Int)<1;decide⟩,⟨Int.le_refl _,by show(1:Int)≤3;decide⟩,⟨Int.le_refl _,by show(1:Int)≤7;decide⟩,⟨Nat.le_refl _,by show 1≤3;decide⟩,fun x hx=>by rw [List.mem_singleton.1 hx];decide,fun i j hij hj=>by have:j<1:=hj;omega,⟨4,by decide,by decide,by show(1:Int)≤1;decide,by show(1:Int)≤12;decide,rfl,Int.le_refl _,by show(0:Int)≤3;decide⟩⟩
 refine⟨by decide,by decide,rfl,fun i hi=>?_,fun l hl=>?_,by decide,fun i hi=>?_,fun f hf'=>?_⟩
 ·have:i=0:=by have:i<1:=hi;omega
  subst this;rfl
 ·rw [List.mem_singleton.1 hl];decide
 ·have:i=0∨i=1:=by have:i<2:=hi;omega
  rcases this with e|e<;>subst e<;>rfl
 ·rcases List.mem_cons.1 hf' with e|e
  ·rw [e];exact hf 0
  ·rw [List.mem_singleton.1 e];exact hf 1
theorem sh_s:PvS shN shL:=by
 refine⟨pchk_of sh_g.chk (by decide) rfl (by decide) ?_,by decide,by decide,by decide,by decide⟩
 intro d hd
 have:d=⟨0,8,1⟩∨d=⟨0,8,2⟩:=by simpa [shL]using hd
 rcases this with e|e<;>subst e<;>unfold DmOK<;>decide
theorem sh_len:(prg shN shL).r.length =5:=by decide+kernel
theorem sh_c {x:Nat→Rat}:cst' (prg shN shL) x= -x 0-2*x 1:=by
 show sm 2 (fun j=>at' (dcs shL) j*x j)=_
 have e0:at' (dcs shL) 0= -1:=by decide+kernel
 have e1:at' (dcs shL) 1= -2:=by decide+kernel
 simp only [sm];rw [e0,e1];grind
theorem sh_f {x:Nat→Rat}:RFeas (prg shN shL) x→x 0+x 1≤10∧x 1≤8:=by
 intro h
 obtain⟨_,h1⟩:=rfeas_iff.1 h
 refine⟨?_,?_⟩
 ·have:=(h1 (crow (hops shN 0) 2,1,(10,1)) (mem_prg.2 (.inl ⟨0,by decide,by decide,rfl⟩))).1 rfl
  have e0:at' (crow (hops shN 0) 2) 0=1:=by decide+kernel
  have e1:at' (crow (hops shN 0) 2) 1=1:=by decide+kernel
  have e2:val (10,1)=10:=by decide+kernel
  have e3:sm 2 (fun j=>at' (crow (hops shN 0) 2) j*x j)=x 0+x 1:=by simp only [sm];rw [e0,e1];grind
  have this:sm 2 (fun j=>at' (crow (hops shN 0) 2) j*x j)≤val (10,1):=this
  rw [e3,e2]at this;exact this
 ·have:=((rk_alon (n:=shN) (l:=shL) (x:=x) (i:=1) (by decide)).1 (h1 (crow (alon 1) 2,1,(8,1)) (mem_prg.2 (.inr ⟨1,by decide, .inr rfl⟩)))).1 rfl
  have e2:val (8,1)=8:=by decide+kernel
  rw [e2]at this;exact this
theorem sh_x:RFeas (prg shN shL) (fun j=>if j=0 then 2 else 8):=by
 refine rfeas_iff.2 ⟨fun j _=>by show(0:Rat)≤if j=0 then 2 else 8;split<;>decide,fun w hw=>?_⟩
 have hw:w∈(prg shN shL).r :=hw
 have e:(prg shN shL).r =[([(1,1),(1,1)],1,(10,1)),([(1,1),(0,1)],2,(0,1)),([(1,1),(0,1)],1,(8,1)),([(0,1),(1,1)],2,(0,1)),([(0,1),(1,1)],1,(8,1))]:=by decide+kernel
 rw [e]at hw
 unfold rk
 show(w.2.1=1→sm 2 _≤_)∧(w.2.1=2→_≤sm 2 _)∧(w.2.1=3→sm 2 _=_)
 simp only [List.mem_cons,List.not_mem_nil,or_false]at hw
 rcases hw with h|h|h|h|h<;>subst h<;>decide+kernel
theorem sh_v {v:F} (f:VF v) (h:RSol (prg shN shL) 1 (val v)):v=(-18,1):=by
 have S:=h.sem (VP.sn sh_s.vp)
 obtain⟨x,hx,ex⟩:=S.att rfl
 have h1:=S.low rfl _ sh_x
 obtain⟨a,b⟩:=sh_f hx
 rw [sh_c]at ex h1
 refine f.inj (by decide) ?_
 have e:val (-18,1)= -18:=by decide+kernel
 rw [e]
 simp at h1
 grind
theorem sh_no {x:Rat}:¬RSol (prg shN shL) 3 x:=fun h=>(h.sem (VP.sn sh_s.vp)).inf rfl _ sh_x
end Go.Proofs.YtbcjojomkibgeaaGreat
