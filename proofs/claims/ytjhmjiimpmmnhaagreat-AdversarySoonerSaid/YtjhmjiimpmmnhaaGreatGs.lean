/- Lemmas of this seat. Conditions: as stated. -/
import Derived.Test.YtjhmjiimpmmnhaaGreatSo7
import Derived.Test.YtjhmjiimpmmnhaaGreatMp
set_option linter.unusedVariables false
set_option linter.unusedSimpArgs false
namespace Go.Mc
open Go.Pk Go.Np
def shP (k:Nat) (p:List Pk):List Pk:=p.map fun x=>⟨x.f,x.t+k,x.s⟩
theorem shP_len {k:Nat} {p:List Pk}:(shP k p).length =p.length:=by simp [shP]
theorem shP_at {k:Nat} {p:List Pk} {i:Nat} (h:i<p.length):(shP k p).getD i pk0=⟨(p.getD i pk0).f,(p.getD i pk0).t +k,(p.getD i pk0).s⟩:=by
 simp [shP,List.getD_eq_getElem?_getD,h]
theorem shP_out {k:Nat} {p:List Pk} {i:Nat} (h:¬i<p.length):(shP k p).getD i pk0=pk0∧p.getD i pk0=pk0:=by
 constructor
 ·rw [List.getD_eq_getElem?_getD,List.getElem?_eq_none (by rw [shP_len];omega)];rfl
 ·rw [List.getD_eq_getElem?_getD,List.getElem?_eq_none (by omega)];rfl
theorem shP_sz {k:Nat} {p:List Pk} {i:Nat}:sz (shP k p) i=sz p i∧cl (shP k p) i=cl p i:=by
 unfold sz cl
 by_cases h:i<p.length
 ·rw [shP_at h];exact⟨rfl,rfl⟩
 ·rw [(shP_out (k:=k) h).1,(shP_out (k:=k) h).2];exact⟨rfl,rfl⟩
theorem shP_tm {k:Nat} {p:List Pk} {i:Nat} (h:i<p.length):tm (shP k p) i=tm p i+k:=by unfold tm;rw [shP_at h]
structure Tin (C:Ch):Prop where
 ti:∀{p p':List Pk} {t t' left:Nat} {w:Nat→Bool} {s:C.σ},p.length=p'.length→(∀i,cl p i=cl p' i)→C.ch p t left w s=C.ch p' t' left w s
 nop:∀{p:List Pk} {t left:Nat} {w:Nat→Bool} {s:C.σ},(C.ch p t left w s).2 =none→(C.ch p t left w s).1 =s
theorem fifo_tin:Tin fifoC:=⟨fun h _=>by simp only [fifoC];rw [h],fun _=>rfl⟩
theorem prio_tin (n:Nat):Tin (prioC n):=⟨fun {p p' t t' left w s} h hc=>by
 simp only [prioC]
 rw [pri_congr (f:=fc p w) (g:=fc p' w) fun c=>by unfold fc;rw [h];simp only [hc]],fun _=>rfl⟩
def shd (k:Nat) (d:Int):Int:=if d= -1 then-1 else d+k
def shS {σ:Type} (k:Nat) (S:St σ):St σ:=⟨S.s,S.cur,S.bg,fun i=>shd k (S.dn i)⟩
theorem wt_sh {p:List Pk} {t k:Nat} (bg:Nat→Bool):wt (shP k p) (t+k) bg=wt p t bg:=funext fun i=>by
 rw [Bool.eq_iff_iff,wt_iff,wt_iff,shP_len]
 constructor
 ·rintro⟨h1,h2,h3⟩;rw [shP_tm h1]at h2;exact⟨h1,by omega,h3⟩
 ·rintro⟨h1,h2,h3⟩;rw [shP_tm h1];exact⟨h1,by omega,h3⟩
theorem sel_sh {C:Ch} (hT:Tin C) {p:List Pk} {t k left:Nat} (S:St C.σ):sel C (shP k p) (t+k) left (shS k S)=(shS k (sel C p t left S).1,(sel C p t left S).2):=by
 have hc:∀w s,C.ch (shP k p) (t+k) left w s=C.ch p t left w s:=fun w s=>hT.ti shP_len fun i=>shP_sz.2
 unfold sel
 show(match S.cur with|some c=>_|none=>_)=_
 cases hcur:S.cur with
 |some c=>rfl
 |none=>
  cases hch:(C.ch p t left (wt p t S.bg) S.s).2 with
  |none=>simp only [shS,wt_sh,hc,hch,hcur]
  |some i=>simp only [shS,wt_sh,hc,hch,hcur,shP_sz.1]
theorem tk_sh {C:Ch} (hT:Tin C) {p:List Pk} {t k:Nat}:∀(left:Nat) (S:St C.σ),tk C (shP k p) (t+k) left (shS k S)=shS k (tk C p t left S):=by
 intro left
 induction left using Nat.strongRecOn with
 |ind left ih=>
  intro S
  cases left with
  |zero=>rw [tk,tk]
  |succ left=>
   rw [tk,tk,sel_sh hT]
   simp only
   cases hs:(sel C p t (left+1) S).2 with
   |none=>rfl
   |some c=>
    simp only
    split
    ·rw [←ih (left-(c.2-1)) (by omega)]
     congr 1
     unfold shS
     simp only [St.mk.injEq,true_and]
     funext j
     unfold upd
     split
     ·unfold shd;rw [if_neg (by omega)];push_cast;rfl
     ·rfl
    ·rfl
theorem run_zero {C:Ch} (hT:Tin C) {p:List Pk} {c k:Nat} (h0:∀i,i<p.length→0≤tm p i):∀m,m≤k→run C (shP k p) c m=⟨C.s0,none,fun _=>false,fun _=> -1⟩
 |0,_=>rfl
 |m+1,hm=>by
  show tk C (shP k p) m c (run C (shP k p) c m)=_
  rw [run_zero hT h0 m (by omega)]
  have hn:(C.ch (shP k p) m c (wt (shP k p) m fun _=>false) C.s0).2 =none:=by
   cases h:(C.ch (shP k p) m c (wt (shP k p) m fun _=>false) C.s0).2 with
   |none=>rfl
   |some i=>
    have:=(C.sub (fun j hj=>(wt_iff.1 hj).1) h).1
    obtain⟨h1,h2,_⟩:=wt_iff.1 this
    rw [shP_len]at h1
    rw [shP_tm h1]at h2
    have:=h0 i h1
    omega
  cases c with
  |zero=>rw [tk]
  |succ c=>
   rw [tk_non (S:=⟨C.s0,none,fun _=>false,fun _=> -1⟩) rfl hn (by omega),hT.nop hn]
theorem run_sh {C:Ch} (hT:Tin C) {p:List Pk} {c k:Nat} (h0:∀i,i<p.length→0≤tm p i):∀t,run C (shP k p) c (t+k)=shS k (run C p c t)
 |0=>by rw [Nat.zero_add,run_zero hT h0 k (Nat.le_refl _)];rfl
 |t+1=>by
  show run C (shP k p) c (t+1+k)=_
  rw [show t+1+k=(t+k)+1 by omega]
  show tk C (shP k p) (t+k) c (run C (shP k p) c (t+k))=shS k (tk C p t c (run C p c t))
  rw [run_sh hT h0 t,tk_sh hT]
def shF (k:Nat) (F:Tf):Tf:=⟨F.np,F.rt,F.fl,F.cs,fun i=>if i<F.np then F.t i+k else F.t i,F.s⟩
def shW (k:Nat) (x:Wt):Wt:=⟨x.a+k,x.f,x.i⟩
theorem arr_sh {F:Tf} {D:Tp} {k i h:Nat} (hi:i<F.np) (hd:∀j,j<h→0≤D i j):arr (shF k F) (fun i h=>D i h+k) i h=(arr F D i h).map (· +(k:Int)):=by
 unfold arr
 by_cases h0:h=0
 ·rw [if_pos h0,if_pos h0]
  show some (if i<F.np then F.t i+k else F.t i)=_
  rw [if_pos hi];rfl
 ·rw [if_neg h0,if_neg h0,if_pos hd,if_pos fun j hj=>by have:=hd j hj;show 0≤D i j+k;omega]
  simp only [Option.map_some,Option.some.injEq];omega
theorem qu_sh {F:Tf} {D:Tp} {k l:Nat} (hd:∀i h,i<F.np→h<(F.rt i).length →0≤D i h):qu (shF k F) (fun i h=>D i h+k) l=(qu F D l).map (shW k):=by
 have hq:=qu_ok F D l
 refine(qu_ok (shF k F) _ l).uniq ⟨?_,fun x=>?_⟩
 ·refine List.pairwise_map.2 (hq.o.imp fun {a b} h=>?_)
  unfold Wt.lt at h⊢
  simp only [shW];omega
 ·rw [List.mem_map]
  constructor
  ·rintro⟨y,hy,rfl⟩
   obtain⟨h1,⟨h,h2,h3⟩,h4⟩:=(hq.m y).1 hy
   obtain⟨h5,_⟩:=hp_some h2
   refine⟨h1,⟨h,h2,?_⟩,h4⟩
   show arr (shF k F) (fun i h=>D i h+k) y.i h=some (y.a+k)
   rw [arr_sh h1 fun j hj=>hd _ _ h1 (by omega),h3];rfl
  ·rintro⟨h1,⟨h,h2,h3⟩,h4⟩
   have h1:x.i<F.np:=h1
   have h2:hp F l x.i=some h:=h2
   obtain⟨h5,_⟩:=hp_some h2
   rw [arr_sh h1 fun j hj=>hd _ _ h1 (by omega)]at h3
   cases ha:arr F D x.i h with
   |none=>rw [ha]at h3;cases h3
   |some a=>
    rw [ha]at h3
    have h3:a+k=x.a:=Option.some.inj h3
    exact⟨⟨a,x.f,x.i⟩,(hq.m _).2 ⟨h1,⟨h,h2,ha⟩,h4⟩,by unfold shW;rw [show a+(k:Int)=x.a from h3]⟩
theorem pkq_sh {F:Tf} {k:Nat} {q:List Wt}:pkq (shF k F) (q.map (shW k))=shP k (pkq F q):=by
 simp [pkq,shP,shF,shW,Function.comp_def]
theorem plc_sh {k:Nat} {q:List Wt} {i:Nat}:plc (q.map (shW k)) i=plc q i:=by
 unfold plc;rw [List.findIdx?_map];rfl
theorem tr_sh {F:Tf} {Z:Li} {N k:Nat} (hR:Rts F) (hL:LnP F Z) (hZ:∀l,l<Z.n→Tin (Z.C l)) (ht:∀i,i<F.np→0≤F.t i) (hd:∀i h,i<F.np→h<(F.rt i).length →0≤tr F Z N i h):
  ∀i h,i<F.np→h<(F.rt i).length →tr (shF k F) Z (N+k) i h=tr F Z N i h+k:=by
 intro i h hi hh
 refine(tr_uniq (F:=shF k F) hR Z (N:=N+k) (D:=fun i h=>tr F Z N i h+k) ?_ i h hi hh).symm
 intro i h hi hh
 have hi:i<F.np:=hi
 have hh:h<(F.rt i).length :=hh
 have hc:=tr_con hR Z N i h hi hh
 have h0:=hd i h hi hh
 have hlz:=hL i h hi hh
 show tr F Z N i h+k=pas (shF k F) Z (N+k) (fun i h=>tr F Z N i h+k) (lin F i h) i
 generalize lin F i h=l at*
 rw [hc]at h0⊢
 unfold pas at h0⊢
 rw [qu_sh hd,plc_sh,pkq_sh]
 cases hp:plc (qu F (tr F Z N) l) i with
 |none=>rw [hp]at h0;simp only at h0;omega
 |some j=>
  rw [hp]at h0
  simp only at h0⊢
  rw [run_sh (hZ l hlz) fun m hm=>?_]
  ·unfold shS shd
   simp only
   rw [if_neg (by omega)]
  ·rw [pkq_len]at hm
   unfold tm
   rw [pkq_at hm]
   obtain⟨a1,⟨u,a2,a3⟩,_⟩:=((qu_ok F (tr F Z N) l).m _).1 (List.getElem_mem hm)
   obtain⟨a4,_⟩:=hp_some a2
   unfold arr at a3
   split at a3
   ·have:=ht _ a1
    have e:=Option.some.inj a3
    show 0≤(qu F (tr F Z N) l)[m].a
    omega
   ·split at a3
    ·have e:=Option.some.inj a3
     have:=hd _ (u-1) a1 (by omega)
     show 0≤(qu F (tr F Z N) l)[m].a
     omega
    ·cases a3
theorem tr_more {F:Tf} {Z:Li} {N k:Nat} (hR:Rts F) (hd:∀i h,i<F.np→h<(F.rt i).length →0≤tr F Z N i h):∀i h,i<F.np→h<(F.rt i).length →tr F Z (N+k) i h=tr F Z N i h:=by
 intro i h hi hh
 refine(tr_uniq hR Z (N:=N+k) (D:=tr F Z N) ?_ i h hi hh).symm
 intro i h hi hh
 have hc:=tr_con hR Z N i h hi hh
 have h0:=hd i h hi hh
 generalize lin F i h=l at*
 rw [hc]at h0⊢
 unfold pas at h0⊢
 cases hp:plc (qu F (tr F Z N) l) i with
 |none=>rfl
 |some j=>
  rw [hp]at h0
  simp only at h0⊢
  have:=run_le (C:=Z.C l) (pkq_asc (F:=F) (qu_ok F (tr F Z N) l).o) (c:=Z.c l) (t:=N) k j
  omega
theorem prio_busy1 {n:Nat} {p:List Pk} (hp:Asc p) {c t:Nat} {i:Nat} (hn:0≤cl p i∧cl p i<n) (hi:i<p.length) (ht:tm p i≤t) (h:(run (prioC n) p c t).dn i= -1):(sel (prioC n) p t c (run (prioC n) p c t)).2 ≠none:=by
 unfold sel
 cases hc:(run (prioC n) p c t).cur with
 |some c0=>simp
 |none=>
  simp only
  have hI:=run_inv hp (C:=prioC n) (c:=c) t
  have hb:(run (prioC n) p c t).bg i=false:=by
   cases hb:(run (prioC n) p c t).bg i with
   |false=>rfl
   |true=>
    obtain⟨r,hr⟩:=hI.e i hb h
    rw [hc]at hr;cases hr
  cases hf:((prioC n).ch p t c (wt p t (run (prioC n) p c t).bg) (run (prioC n) p c t).s).2 with
  |some j=>simp
  |none=>
   exfalso
   have hf:pri (fc p (wt p t (run (prioC n) p c t).bg)) n=none:=hf
   have hall:∀m,pri (fc p (wt p t (run (prioC n) p c t).bg)) m=none→∀d:Nat,d<m→fc p (wt p t (run (prioC n) p c t).bg) d=none:=by
    intro m
    induction m with
    |zero=>intro _ d hd;omega
    |succ m ih=>
     intro hm d hd
     simp only [pri]at hm
     cases hpm:pri (fc p (wt p t (run (prioC n) p c t).bg)) m with
     |some k=>rw [hpm]at hm;cases hm
     |none=>
      rw [hpm]at hm
      by_cases e:d=m
      ·subst e;exact hm
      ·exact ih hpm d (by omega)
   have h1:=hall n hf (cl p i).toNat (by omega)
   have h2:=fc_none.1 h1 i hi (by omega)
   have h3:=wt_iff.2 ⟨hi,ht,hb⟩
   rw [h2]at h3;cases h3
theorem tr_endsB {F:Tf} {Z:Li} {N last:Nat} (hR:Rts F) (hL:LnP F Z) (hf:∀l,l<Z.n→1≤Z.c l∧∀(t i:Nat),i<(pkq F (qu F (tr F Z N) l)).length →tm (pkq F (qu F (tr F Z N) l)) i≤t→(run (Z.C l) (pkq F (qu F (tr F Z N) l)) (Z.c l) t).dn i= -1→(sel (Z.C l) (pkq F (qu F (tr F Z N) l)) t (Z.c l) (run (Z.C l) (pkq F (qu F (tr F Z N) l)) (Z.c l) t)).2 ≠none) (hs:∀i,i<F.np→1≤F.s i) (ht:∀i,i<F.np→F.t i≤last) (h4:∀i,i<F.np→(F.rt i).length ≤4)
  (hN:last+4*sumN (fun i=>(F.s i).toNat) F.np+1≤N):∀i h,i<F.np→h<(F.rt i).length →0≤tr F Z N i h:=by
 intro i0 h0 hi0 hh0
 refine Classical.byContradiction fun hneg=>?_
 have hq:=fun l=>qu_ok F (tr F Z N) l
 have hasc:=fun l=>pkq_asc (F:=F) (hq l).o
 have hpos:∀l,Pos (pkq F (qu F (tr F Z N) l)):=fun l k hk=>by
  rw [pkq_len]at hk
  unfold sz
  rw [pkq_at hk]
  have:=hs _ (((hq l).m _).1 (List.getElem_mem hk)).1
  simp only;omega
 have step:∀t,last≤t→t<N→sumN (fun l=>Ph (pkq F (qu F (tr F Z N) l)) 1 (run (Z.C l) (pkq F (qu F (tr F Z N) l)) (Z.c l) (t+1))) Z.n+1≤sumN (fun l=>Ph (pkq F (qu F (tr F Z N) l)) 1 (run (Z.C l) (pkq F (qu F (tr F Z N) l)) (Z.c l) t)) Z.n:=by
  intro t h1 h2
  have least:∀m,m≤h0→(¬(0≤tr F Z N i0 m∧tr F Z N i0 m<t))→∃h,h≤h0∧¬(0≤tr F Z N i0 h∧tr F Z N i0 h<t)∧∀j,j<h→0≤tr F Z N i0 j∧tr F Z N i0 j<t:=by
   intro m
   induction m using Nat.strongRecOn with
   |ind m ih=>
    intro hm hno
    by_cases hall:∀j,j<m→0≤tr F Z N i0 j∧tr F Z N i0 j<t
    ·exact⟨m,hm,hno,hall⟩
    ·obtain⟨j,hj⟩:=Classical.not_forall.1 hall
     obtain⟨hj1,hj2⟩:=Classical.not_imp.1 hj
     exact ih j hj1 (by omega) hj2
  obtain⟨h,hh,hno,hall⟩:=least h0 (Nat.le_refl _) (fun k=>hneg k.1)
  have hhl:h<(F.rt i0).length :=by omega
  obtain⟨a,ha,hat⟩:∃a:Int,arr F (tr F Z N) i0 h=some a∧a≤t:=by
   unfold arr
   by_cases e:h=0
   ·rw [if_pos e];exact⟨_,rfl,by have:=ht i0 hi0;omega⟩
   ·rw [if_neg e,if_pos fun j hj=>(hall j hj).1]
    exact⟨_,rfl,by have:=(hall (h-1) (by omega)).2;omega⟩
  have hpl:=hp_lin hR hi0 hhl
  have hm:(⟨a,F.fl i0,i0⟩:Wt)∈qu F (tr F Z N) (lin F i0 h):=((hq _).m _).2 ⟨hi0,⟨h,hpl,ha⟩,rfl⟩
  have hlz:=hL i0 h hi0 hhl
  have hD:=tr_con hR Z N i0 h hi0 hhl
  generalize lin F i0 h=l at*
  obtain⟨k,hk,hke⟩:=List.mem_iff_getElem.1 hm
  have hpc:=(hq l).plc hk
  rw [hke]at hpc
  unfold pas at hD
  rw [hpc]at hD
  simp only at hD
  have hkp:k<(pkq F (qu F (tr F Z N) l)).length :=by rw [pkq_len];exact hk
  have hdn:(run (Z.C l) (pkq F (qu F (tr F Z N) l)) (Z.c l) t).dn k= -1:=by
   rw [run_cut (hasc l) (Nat.le_of_lt h2),←hD,if_neg hno]
  have htm:tm (pkq F (qu F (tr F Z N) l)) k≤t:=by
   unfold tm
   rw [pkq_at hk,hke];exact hat
  have hb:=(hf l hlz).2 t k hkp htm hdn
  refine sumN_strict (j:=l) (fun m hm=>(tk_ph (hasc m) (hpos m) 1 (Z.c m) (run_inv (hasc m) (C:=Z.C m) (c:=Z.c m) t).inT (run_rs (hasc m) (hpos m) t)).2.1) hlz ?_
  have:=(tk_ph (hasc l) (hpos l) 1 (Z.c l) (run_inv (hasc l) (C:=Z.C l) (c:=Z.c l) t).inT (run_rs (hasc l) (hpos l) t)).2.2 (hf l hlz).1 hb
  have e:run (Z.C l) (pkq F (qu F (tr F Z N) l)) (Z.c l) (t+1)=tk (Z.C l) (pkq F (qu F (tr F Z N) l)) t (Z.c l) (run (Z.C l) (pkq F (qu F (tr F Z N) l)) (Z.c l) t):=rfl
  simp only [e]
  omega
 have down:∀k,last+k≤N→sumN (fun l=>Ph (pkq F (qu F (tr F Z N) l)) 1 (run (Z.C l) (pkq F (qu F (tr F Z N) l)) (Z.c l) (last+k))) Z.n+k≤sumN (fun l=>Ph (pkq F (qu F (tr F Z N) l)) 1 (run (Z.C l) (pkq F (qu F (tr F Z N) l)) (Z.c l) last)) Z.n:=by
  intro k
  induction k with
  |zero=>intro _;exact Nat.le_refl _
  |succ k ih=>
   intro hk
   have:=ih (by omega)
   have:=step (last+k) (by omega) (by omega)
   rw [show last+k+1=last+(k+1)by omega]at this
   omega
 have top:sumN (fun l=>Ph (pkq F (qu F (tr F Z N) l)) 1 (run (Z.C l) (pkq F (qu F (tr F Z N) l)) (Z.c l) last)) Z.n≤4*sumN (fun i=>(F.s i).toNat) F.np:=by
  have e1:sumN (fun l=>Ph (pkq F (qu F (tr F Z N) l)) 1 (run (Z.C l) (pkq F (qu F (tr F Z N) l)) (Z.c l) last)) Z.n≤sumN (fun l=>sumN (fun i=>if decide (l∈F.rt i)=true then(F.s i).toNat else 0) F.np) Z.n:=by
   refine sumN_le fun l _=>Nat.le_trans (ph_le (hasc l) (hpos l) last) ?_
   unfold byt
   rw [pkq_len,sumN_map (q:=qu F (tr F Z N) l) (s:=fun i=>(F.s i).toNat) fun k hk=>by unfold sz;rw [pkq_at hk]]
   refine sumN_list _ ?_ fun x hx=>?_
   ·refine List.pairwise_iff_getElem.2 fun a b ha hb hab=>?_
    rw [List.length_map]at ha hb
    rw [List.getElem_map,List.getElem_map]
    intro e
    have:=(hq l).inj ha hb e
    omega
   ·obtain⟨y,hy,rfl⟩:=List.mem_map.1 hx
    obtain⟨a1,⟨u,a2,_⟩,_⟩:=((hq l).m y).1 hy
    refine⟨a1,decide_eq_true ?_⟩
    unfold hp at a2
    split at a2
    ·assumption
    ·cases a2
  rw [sumN_swap]at e1
  refine Nat.le_trans e1 ?_
  have e2:∀k,k≤F.np→sumN (fun i=>sumN (fun l=>if decide (l∈F.rt i)=true then(F.s i).toNat else 0) Z.n) k≤4*sumN (fun i=>(F.s i).toNat) k:=by
   intro k
   induction k with
   |zero=>intro _;exact Nat.zero_le _
   |succ k ih=>
    intro hk
    have:=ih (by omega)
    have h1:=sumN_in (v:=(F.s k).toNat) (n:=Z.n) (F.rt k)
    have h2:=Nat.mul_le_mul_right (F.s k).toNat (h4 k (by omega))
    simp only [sumN,decide_eq_true_eq]at*
    omega
  exact e2 F.np (Nat.le_refl _)
 have:=down (N-last) (by omega)
 omega
end Go.Mc
