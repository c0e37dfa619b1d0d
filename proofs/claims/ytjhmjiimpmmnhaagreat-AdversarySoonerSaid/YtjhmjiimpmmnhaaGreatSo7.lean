/- Lemmas of this seat. Conditions: as stated. -/
import Derived.Test.YtjhmjiimpmmnhaaGreatSo4
import Derived.Test.YtjhmjiimpmmnhaaGreatDz
import Derived.Test.YtjhmjiimpmmnhaaGreatMp
import Derived.Test.YtjhmjiimpmmnhaaGreatMtt
import Derived.Test.YtjhmjiimpmmnhaaGreatS0
import Derived.Test.YtjhmjiimpmmnhaaGreatS4
import Derived.Test.YtjhmjiimpmmnhaaGreatT1
import Derived.Test.YtjhmjiimpmmnhaaGreatS5
import Derived.Test.YtjhmjiimpmmnhaaGreatN3
import Derived.Test.YtjhmjiimpmmnhaaGreatKn
import Derived.Test.YtjhmjiimpmmnhaaGreatMq
import Derived.Test.YtjhmjiimpmmnhaaGreatSxW
set_option linter.unusedVariables false
set_option linter.unusedSimpArgs false
set_option maxHeartbeats 2000000
set_option maxRecDepth 4000
namespace Go.Proofs.YtjhmjiimpmmnhaaGreat
section
open Go.Sx Go.Pk Go.Mc Go.Np
def emM (F:Tf) (i:Nat):List (List Int):=(List.range i).map fun j=>List.replicate (F.rt j).length (-1)
theorem emM_succ (F:Tf) (i:Nat):emM F (i+1)=emM F i++[List.replicate (F.rt i).length (-1)]:=by simp [emM,List.range_succ]
theorem emM_len (F:Tf) (i:Nat):(emM F i).length =i:=by simp [emM]
theorem emM_row {F:Tf} {m i:Nat} (h:i<m):(emM F m).getD i []=List.replicate (F.rt i).length (-1):=by simp [emM,List.getD_eq_getElem?_getD,h]
theorem emM_at {F:Tf} {m i k:Nat} (h:i<m) (hk:k<(F.rt i).length):dR (emM F m) i k= -1:=by
 unfold dR
 rw [emM_row h,List.getD_eq_getElem?_getD,List.getElem?_replicate,if_pos hk];rfl
theorem emM_sh (F:Tf) (N:Nat):ShM F N (emM F F.np):=
 ⟨emM_len F _,fun i hi=>by rw [emM_row hi,List.length_replicate],fun i k hi hk=>by rw [emM_at hi hk];omega⟩
theorem LnP.of {n:Nt} {p:List Pk} (h:SkP n p):LnP (toF n p) (liN n):=fun _ _ hi hh=>(h.lnn hi hh).2
theorem z2_So7 {G H:Prop} (k:H) (h:H→G:=by first|exact fun r=>aS r|exact fun r=>aG r|exact fun r=>aD r|exact fun r=>aP_T1 r|exact fun r=>aI r|exact fun r=>aJ r|exact fun r=>aW (.qs [0,1,3,4,5,6,7,8,9,10] (.l 2 [9,6,4,1] (.l 11 [1] (.l 12 [1] (.l 13 [] (.qs [14] (.l 15 [] .nil .no)) .no) .no) .no) .no)) r):G:=h k
theorem z1_So7 {G H:Prop} (k:H) (h:H→G:=by first|exact fun r=>aS r|exact fun r=>aG r|exact fun r=>aD r|exact fun r=>aH r|exact fun r=>aP_T1 r|exact fun r=>aI r|exact fun r=>aJ r|exact fun r=>aW (.qs [0,1,3,4,5,6,7,8,9,10] (.l 2 [9,6,4,1] (.l 11 [1] (.l 12 [1] (.l 13 [] (.qs [14] (.l 15 [] .nil .no)) .no) .no) .no) .no)) r):G:=h k
theorem Run_ok (n:Nt) (hn:NL n) (p:List Pk) (h:SkP n p) (N:Nat) (hN:N≤2000):
  Ctr Tryz.prog 50 [ntv n, .psl 3 (pks p),i64 N] [] (fun r o=>o=[]∧r= .tup [.agg [.psl 1 (trs (trR (toF n p) (liN n) N))],i64 0]):=by
 refine fI 0 Tryz.func50 ?_
 have h60:=h.l
 have hpl:=pks_len p
 have hfl:=fll n.fl
 have hlnl:=lnl n.ln
 have hc8:=chk_n h.h
 (repeat' (conv=>whnf);first|refine aC ?_ ?_<;>intro<;>try omega|refine z1_So7 ?_|fail);all_goals try (conv=>whnf)
 refine aK [] (SChk_ok n hn p (by omega)) ?_
 rw [sck_zero.2 h]
 (repeat' (conv=>whnf);first|refine aC ?_ ?_<;>intro<;>try omega|refine z2_So7 ?_|fail);all_goals try (conv=>whnf)
 refine .mk [.nm 2 0 1] ?_
 refine LoopOb.mk (Y:=Nat) (st:=fun i=>⟨[(32,i64 i),(31,i64 (pks p).length),(30, .psl 3 (pks p)),(9, .ptr 2 0),(6, .ptr 1 0),(3, .ptr 0 0),(1, .psl 3 (pks p)),(2,i64 N)],[nbx n, .box [.nil], .box [.vec 3], .mat 1 ((emM (toF n p) i).map ints)]⟩)
  (inv:=fun i=>i≤p.length) (fun i=>p.length-i) 0 [0,1,2,3] (by omega) (by(exact aL)) ?_
 rintro i hi
 have hel:=emM_len (toF n p) i
 have hel2:((emM (toF n p) i).map ints).length =i:=by rw [List.length_map,hel]
 by_cases hip:i<p.length
 ·have hg:=pks_get hip
  obtain⟨f1,f2,_,_,hG,_⟩:=h.fl hip
  have hfg:=flg (l:=n.fl) (i:=(p.getD i pk0).f.toNat) (by omega)
  have hG1:=hG.l1
  have hG4:=hG.l2
  have hnx:(emM (toF n p) i).map ints++[ints (List.replicate (pfl n (p.getD i pk0)).rt.length (-1))]=(emM (toF n p) (i+1)).map ints:=by
   rw [emM_succ,List.map_append];simp [toF]
  unfold pfl at hnx hG1 hG4
  generalize p.getD i pk0=x at*
  generalize n.fl.getD x.f.toNat fl0=f at*
  have hrl:=ints_len f.rt
  (repeat' (conv=>whnf);first|refine⟨x.f.toNat,_,by omega,hfg,?_⟩|refine⟨i,_,rfl,hg,?_⟩|refine aC ?_ ?_<;>intro<;>try omega|refine z1_So7 ?_|(refine CallOb.mk [5] (Rep_ok f.rt.length (by omega) (by omega) (-1)) rfl ⟨Imp.refl _,Imp.num (by omega),trivial⟩ rfl rfl ?_;rintro _ _ ⟨rfl,rfl⟩)|fail);all_goals try (conv=>whnf)
  exact⟨i+1,[0,1,2,8],by omega,by omega,by rw [←hnx];(exact aL)⟩
 ·obtain rfl:i=p.length:=by omega
  have hR:=h.rts
  have hL:=LnP.of h
  have hE:=emM_sh (toF n p) N
  have hA:Ag (toF n p) 0 (dR (emM (toF n p) p.length)) (tr (toF n p) (liN n) N):=fun i k _ _ h=>by omega
  have hE:ShM (toF n p) N (emM (toF n p) p.length):=hE
  generalize emM (toF n p) p.length=ms0 at*
  clear hel hel2
  (repeat' (conv=>whnf);first|refine aC ?_ ?_<;>intro<;>try omega|refine z1_So7 ?_|fail);all_goals try (conv=>whnf)
  refine LoopOb.mk (Y:=List (List Int)×Nat) (st:=fun y=>⟨[(9, .ptr 2 0),(6, .ptr 1 0),(3, .ptr 0 0),(1, .psl 3 (pks p)),(2,i64 N)],[nbx n, .box [.nil], .box [.vec 3], .mat 1 (y.1.map ints)]⟩)
   (inv:=fun y=>ShM (toF n p) N y.1∧Ag (toF n p) y.2 (dR y.1) (tr (toF n p) (liN n) N)∧y.2≤N) (fun y=>N-y.2) (ms0,0) [0,1,2,3] ⟨hE,hA,by omega⟩ (by(exact aL)) ?_
  rintro⟨ms,k⟩ ⟨hS,hAg,hkN⟩
  dsimp only at hS hAg hkN⊢
  (repeat' (conv=>whnf);first|refine aC ?_ ?_<;>intro<;>try omega|refine z1_So7 ?_|fail);all_goals try (conv=>whnf)
  refine LoopOb.mk (Y:=Nat×Bool×List (List Int)) (st:=fun y=>⟨[(55,i64 y.1),(54,i64 (lns n.ln).length),(12, .bl y.2.1),(9, .ptr 2 0),(6, .ptr 1 0),(3, .ptr 0 0),(1, .psl 3 (pks p)),(2,i64 N)],[nbx n, .box [.nil], .box [.vec 3], .mat 1 (y.2.2.map ints)]⟩)
   (inv:=fun y=>y.1≤n.ln.length∧ShM (toF n p) N y.2.2∧AgL (toF n p) (liN n) N k y.1 (dR y.2.2)∧(y.2.1=false→y.2.2=ms∧∀l,l<y.1→¬ChgM (toF n p) (liN n) N l ms fun _=>true)∧(N≤k→y.2.1=false)) (fun y=>n.ln.length-y.1) (0,false,ms) [0,1,2,3] ⟨by omega,hS,AgL.zero hAg,fun _=>⟨rfl,fun l hl=>by dsimp only at hl;omega⟩,fun _=>rfl⟩ (by(exact aL)) ?_
  rintro⟨l,c,ms'⟩ ⟨hl,hS',hA',hc,hNk⟩
  dsimp only at hl hS' hA' hc hNk⊢
  by_cases hll:l<n.ln.length
  ·have hmo:ms'.length=p.length:=hS'.l
   (repeat' (conv=>whnf);first|refine aC ?_ ?_<;>intro<;>try omega|refine z1_So7 ?_|fail);all_goals try (conv=>whnf)
   refine aM [3] (pass_ok n hn p h N hN ms' hS' l hll) rfl rfl ?_
   rintro _ _ ⟨c',hc',rfl,rfl⟩
   have hinv:ShM (toF n p) N (pasM (toF n p) (liN n) N l ms')∧AgL (toF n p) (liN n) N k (l+1) (dR (pasM (toF n p) (liN n) N l ms'))∧((c||c')=false→pasM (toF n p) (liN n) N l ms'=ms∧∀j,j<l+1→¬ChgM (toF n p) (liN n) N j ms fun _=>true)∧(N≤k→(c||c')=false):=by
    refine⟨pasM_sh hS',AgL.step hR hS' hA',fun e=>?_,fun e=>?_⟩
    ·rw [Bool.or_eq_false_iff]at e
     obtain⟨e1,e2⟩:=hc e.1
     subst e1
     have hn':¬ChgM (toF n p) (liN n) N l ms' fun _=>true:=fun k=>by rw [hc'.2 k]at e;cases e.2
     refine⟨pasM_same hR hS'.l hS'.r hn',fun j hj=>?_⟩
     rcases Nat.lt_succ_iff_lt_or_eq.1 hj with h|h
     ·exact e2 j h
     ·subst h;exact hn'
    ·rw [hNk e,Bool.false_or]
     have:=ag_end hR e hS' hA'.ag
     subst this
     cases c' with
     |false=>rfl
     |true=>exact absurd (hc'.1 rfl) (tr_fix hR)
   generalize pasM (toF n p) (liN n) N l ms'=ms2 at*
   obtain⟨i1,i2,i3,i4⟩:=hinv
   cases c<;>cases c'
   ·(repeat' (conv=>whnf);first|refine aC ?_ ?_<;>intro<;>try omega|refine z1_So7 ?_|fail);all_goals try (conv=>whnf)
    exact⟨(l+1,false,ms2),[0,1,2,3],⟨by dsimp only;omega,i1,i2,i3,i4⟩,by dsimp only;omega,by(exact aL)⟩
   all_goals
    (repeat' (conv=>whnf);first|refine aC ?_ ?_<;>intro<;>try omega|refine z1_So7 ?_|fail);all_goals try (conv=>whnf)
    exact⟨(l+1,true,ms2),[0,1,2,3],⟨by dsimp only;omega,i1,i2,i3,i4⟩,by dsimp only;omega,by(exact aL)⟩
  ·obtain rfl:l=n.ln.length:=by omega
   cases c
   ·obtain⟨e1,e2⟩:=hc rfl
    have:=con_end hR hL hS.l hS.r e2
    subst e1 this
    (repeat' (conv=>whnf);first|refine aC ?_ ?_<;>intro<;>try omega|refine z2_So7 ?_|fail);all_goals try (conv=>whnf)
    refine .mk [.fm 3] ?_
    (repeat' (conv=>whnf);first|refine aC ?_ ?_<;>intro<;>try omega|refine z1_So7 ?_|fail);all_goals try (conv=>whnf)
    exact⟨rfl,rfl⟩
   ·have hk:k<N:=by
     rcases Nat.lt_or_ge k N with h|h
     ·exact h
     ·exact absurd (hNk h) (by simp)
    have hA2:=AgL.done hL hA'
    (repeat' (conv=>whnf);first|refine aC ?_ ?_<;>intro<;>try omega|refine z1_So7 ?_|fail);all_goals try (conv=>whnf)
    exact⟨(ms',k+1),[0,1,2,3],⟨hS',hA2,by dsimp only;omega⟩,by dsimp only;omega,by(exact aL)⟩
end
end Go.Proofs.YtjhmjiimpmmnhaaGreat
section
namespace Go.Mc
open Go.Pk Go.Np
theorem SkP.mono {n:Nt} {p:List Pk} (h:SkP n p):∀{j i:Nat},i≤j→j<p.length→(p.getD i pk0).t ≤(p.getD j pk0).t
 |0,i,h1,_=>by rw [show i=0 by omega];exact Int.le_refl _
 |j+1,i,h1,h2=>by
  rcases Nat.lt_or_ge j i with c|c
  ·rw [show i=j+1 by omega];exact Int.le_refl _
  ·have:=h.mono (j:=j) c (by omega)
   have h3:=h.o (j+1) h2
   have e:lst p (j+1)=(p.getD j pk0).t :=rfl
   omega
end Go.Mc
end
section
namespace Go.Mc
open Go.Pk Go.Np
theorem sumN_swap {f:Nat→Nat→Nat} {n:Nat}:∀m,sumN (fun l=>sumN (fun i=>f l i) n) m=sumN (fun i=>sumN (fun l=>f l i) m) n
 |0=>by
  have:∀k,sumN (fun i=>sumN (fun l=>f l i) 0) k=0:=by
   intro k;induction k with
   |zero=>rfl
   |succ k ih=>simp only [sumN]at*;omega
  rw [this];rfl
 |m+1=>by
  have hadd:∀(g h:Nat→Nat) k,sumN (fun i=>g i+h i) k=sumN g k+sumN h k:=by
   intro g h k;induction k with
   |zero=>rfl
   |succ k ih=>simp only [sumN]at*;omega
  show sumN (fun l=>sumN (fun i=>f l i) n) m+sumN (fun i=>f m i) n=_
  rw [sumN_swap m,←hadd]
  rfl
theorem sumN_list {s:Nat→Nat} {P:Nat→Bool} {n:Nat}:∀(L:List Nat),L.Nodup→(∀x∈L,x<n∧P x=true)→(L.map s).sum ≤sumN (fun i=>if P i=true then s i else 0) n
 |[],_,_=>Nat.zero_le _
 |x::L,hn,h=>by
  rw [List.nodup_cons]at hn
  obtain⟨h1,h2⟩:=h x (by simp)
  have ih:=sumN_list (s:=s) (P:=fun i=>P i && decide (i≠x)) (n:=n) L hn.2 fun y hy=>⟨(h y (by simp [hy])).1,by
   simp only [Bool.and_eq_true,decide_eq_true_eq]
   exact⟨(h y (by simp [hy])).2,fun e=>hn.1 (e▸hy)⟩⟩
  have hu:=sumN_upd (F:=fun i=>if P i=true then s i else 0) (G:=fun i=>if(P i && decide (i≠x))=true then s i else 0) h1 fun j hj _=>by
   simp [hj]
  simp only [h2,if_true,ne_eq,not_true_eq_false,decide_false,Bool.and_false,Bool.false_eq_true,if_false]at hu
  rw [List.map_cons,List.sum_cons]
  simp only [ne_eq]at ih
  omega
theorem sumN_in {v:Nat} {n:Nat}:∀(L:List Nat),sumN (fun l=>if l∈L then v else 0) n≤L.length*v
 |[]=>by
  have:∀k,sumN (fun l=>if l∈([]:List Nat)then v else 0) k=0:=by
   intro k;induction k with
   |zero=>rfl
   |succ k ih=>simp only [sumN]at*;rw [ih];simp
  rw [this];exact Nat.zero_le _
 |x::L=>by
  have ih:=sumN_in (v:=v) (n:=n) L
  have hone:∀k,sumN (fun l=>if l=x then v else 0) k≤v:=by
   intro k
   have:∀k,k≤x→sumN (fun l=>if l=x then v else 0) k=0:=by
    intro k;induction k with
    |zero=>intro _;rfl
    |succ k ih=>intro h;simp only [sumN]at*;rw [ih (by omega),if_neg (by omega)]
   induction k with
   |zero=>exact Nat.zero_le _
   |succ k ihk=>
    simp only [sumN]
    by_cases e:k=x
    ·subst e;rw [if_pos rfl,this k (Nat.le_refl _)];omega
    ·rw [if_neg e];exact ihk
  have hadd:∀k,sumN (fun l=>if l∈x::L then v else 0) k≤sumN (fun l=>if l=x then v else 0) k+sumN (fun l=>if l∈L then v else 0) k:=by
   intro k;induction k with
   |zero=>exact Nat.zero_le _
   |succ k ihk=>
    simp only [sumN,List.mem_cons]at*
    by_cases e1:k=x
    ·rw [if_pos (.inl e1),if_pos e1];omega
    ·by_cases e2:k∈L
     ·rw [if_pos (.inr e2),if_pos e2,if_neg e1];omega
     ·rw [if_neg (fun h=>h.elim e1 e2),if_neg e1,if_neg e2];omega
  have:=hadd n
  have:=hone n
  rw [List.length_cons,Nat.add_mul];omega
theorem sumN_cons {G:Nat→Nat}:∀n,sumN G (n+1)=G 0+sumN (fun i=>G (i+1)) n
 |0=>by simp [sumN]
 |n+1=>by
  have:=sumN_cons (G:=G) n
  simp only [sumN]at*
  omega
theorem sumN_map {s:Nat→Nat}:∀{q:List Wt} {G:Nat→Nat},(∀k (hk:k<q.length),G k=s q[k].i)→sumN G q.length=((q.map (·.i)).map s).sum
 |[],_,_=>rfl
 |x::q,G,h=>by
  rw [List.length_cons,sumN_cons,h 0 (by simp),sumN_map (q:=q) (G:=fun i=>G (i+1)) fun k hk=>h (k+1) (by simp;omega)]
  simp
theorem sumN_strict {f g:Nat→Nat} {j:Nat}:∀{n:Nat},(∀i,i<n→f i≤g i)→j<n→f j+1≤g j→sumN f n+1≤sumN g n
 |n+1,h,hj,hlt=>by
  simp only [sumN]
  rcases Nat.lt_succ_iff_lt_or_eq.1 hj with c|c
  ·have:=sumN_strict (f:=f) (g:=g) (n:=n) (fun i hi=>h i (by omega)) c hlt
   have:=h n (by omega)
   omega
  ·subst c
   have:=sumN_le (F:=f) (G:=g) (n:=j) fun i hi=>h i (by omega)
   omega
theorem fifo_busy1 {p:List Pk} (hp:Asc p) {c t:Nat} {i:Nat} (hi:i<p.length) (ht:tm p i≤t) (h:(run fifoC p c t).dn i= -1):(sel fifoC p t c (run fifoC p c t)).2 ≠none:=by
 unfold sel
 cases hc:(run fifoC p c t).cur with
 |some c0=>simp
 |none=>
  simp only
  have hI:=run_inv hp (C:=fifoC) (c:=c) t
  have hb:(run fifoC p c t).bg i=false:=by
   cases hb:(run fifoC p c t).bg i with
   |false=>rfl
   |true=>
    obtain⟨r,hr⟩:=hI.e i hb h
    rw [hc]at hr;cases hr
  cases hf:(fifoC.ch p t c (wt p t (run fifoC p c t).bg) (run fifoC p c t).s).2 with
  |some j=>simp
  |none=>
   have:fst (wt p t (run fifoC p c t).bg) p.length=none:=hf
   have:=fst_none.1 this i hi
   have h2:=wt_iff.2 ⟨hi,ht,hb⟩
   rw [h2]at this;cases this
theorem ph_le {C:Ch} {p:List Pk} (hp:Asc p) (hs:Pos p) {c:Nat}:∀t,Ph p 1 (run C p c t)≤byt p
 |0=>sumN_le fun i _=>by
   unfold ph
   simp [run]
 |t+1=>Nat.le_trans (tk_ph hp hs 1 c (run_inv hp (C:=C) (c:=c) t).inT (run_rs hp hs t)).2.1 (ph_le hp hs t)
end Go.Mc
end
namespace Go.Proofs.YtjhmjiimpmmnhaaGreat
section
open Go.Sx Go.Pk Go.Mc Go.Np
open Classical in
noncomputable def rnG (n:Nt) (p:List Pk) (k:Int):List (List Int)×Int:=if sck n p≠0 then([],sck n p)else if k<0∨2000<k then([],3)else(trR (toF n p) (liN n) k.toNat,0)
abbrev rnV (x:List (List Int)×Int):SV:= .tup [.agg [.psl 1 (trs x.1)],i64 x.2]
theorem rnG_in {n:Nt} {p:List Pk} {k:Int} (h:SkP n p) (h0:0≤k) (h1:k≤2000):rnG n p k=(trR (toF n p) (liN n) k.toNat,0):=by
 unfold rnG
 rw [if_neg (by rw [sck_zero.2 h];simp),if_neg (by omega)]
theorem RunG_ok (n:Nt) (hn:NL n) (p:List Pk) (hp:p.length≤1000) (k:Int):Ctr Tryz.prog 50 [ntv n, .psl 3 (pks p),i64 k] [] (fun r o=>o=[]∧r=rnV (rnG n p k)):=by
 by_cases hg:SkP n p∧0≤k∧k≤2000
 ·obtain⟨h,k0,k1⟩:=hg
  rw [rnG_in h k0 k1]
  obtain⟨N,rfl⟩:∃N:Nat,k=N:=⟨k.toNat,by omega⟩
  exact Run_ok n hn p h N (by omega)
 ·have cS:=SChk_ok n hn p (by omega)
  have hs0:=sck_zero (n:=n) (p:=p)
  unfold rnG
  refine Ctr.imp ?_
  refine fI 0 Tryz.func50 ?_
  generalize sck n p=e at*
  have hg2:¬(e=0∧0≤k∧k≤2000):=fun c=>hg ⟨hs0.1 c.1,c.2⟩
  clear hs0
  (repeat' (conv=>whnf);first|refine aC ?_ ?_<;>intro<;>try omega|refine z1_So7 ?_|(refine aK [] (cS) ?_)|fail);all_goals try (conv=>whnf)
  all_goals refine⟨rfl,?_⟩
  ·rw [if_pos (by assumption)]
   exact Imp.tup ⟨Imp.agg ⟨Imp.nil _,trivial⟩,Imp.refl _,trivial⟩
  all_goals
   rw [if_neg (by assumption),if_pos (by omega)]
   exact Imp.tup ⟨Imp.agg ⟨Imp.nil _,trivial⟩,Imp.refl _,trivial⟩
end
end Go.Proofs.YtjhmjiimpmmnhaaGreat
