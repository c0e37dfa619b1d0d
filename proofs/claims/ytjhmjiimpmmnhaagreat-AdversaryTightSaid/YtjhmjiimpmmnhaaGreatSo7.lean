/- Lemmas of this seat. Conditions: as stated. -/
import Derived.Test.YtjhmjiimpmmnhaaGreatSo4
import Derived.Test.YtjhmjiimpmmnhaaGreatSo5
import Derived.Test.YtjhmjiimpmmnhaaGreatMn
import Derived.Test.YtjhmjiimpmmnhaaGreatMtt
import Derived.Test.YtjhmjiimpmmnhaaGreatS1
import Derived.Test.YtjhmjiimpmmnhaaGreatS4
import Derived.Test.YtjhmjiimpmmnhaaGreatT1
import Derived.Test.YtjhmjiimpmmnhaaGreatSo3
import Derived.Test.YtjhmjiimpmmnhaaGreatN2
import Derived.Test.YtjhmjiimpmmnhaaGreatN10
import Derived.Test.YtjhmjiimpmmnhaaGreatSxW
import Derived.Test.YtjhmjiimpmmnhaaGreatS6
set_option linter.unusedVariables false
set_option linter.unusedSimpArgs false
set_option maxHeartbeats 2000000
set_option maxRecDepth 4000
namespace Go.Proofs.YtjhmjiimpmmnhaaGreat
section
open Go.Sx Go.Pk Go.Mc Go.Np
def emM (F:Tf) (i:Nat):List (List Int):=(List.range i).map fun j=>List.replicate (F.rt j).length (-1)
theorem emM_succ (F:Tf) (i:Nat):emM F (i+1)=emM F i++[List.replicate (F.rt i).length (-1)]:=by simp [emM,List.range_succ]
theorem emM_len (F:Tf) (i:Nat):(emM F i).length =i:=by simp [emM]
theorem emM_row {F:Tf} {m i:Nat} (h:i<m):(emM F m).getD i []=List.replicate (F.rt i).length (-1):=by simp [emM,List.getD_eq_getElem?_getD,h]
theorem emM_at {F:Tf} {m i k:Nat} (h:i<m) (hk:k<(F.rt i).length):dR (emM F m) i k= -1:=by
 unfold dR
 rw [emM_row h,List.getD_eq_getElem?_getD,List.getElem?_replicate,if_pos hk];rfl
theorem emM_sh (F:Tf) (N:Nat):ShM F N (emM F F.np):=
 ⟨emM_len F _,fun i hi=>by rw [emM_row hi,List.length_replicate],fun i k hi hk=>by rw [emM_at hi hk];omega⟩
theorem LnP.of {n:Nt} {p:List Pk} (h:SkP n p):LnP (toF n p) (liN n):=fun _ _ hi hh=>(h.lnn hi hh).2
theorem z2_So7 {G H:Prop} (k:H) (h:H→G:=by first|exact fun r=>aS r|exact fun r=>aG r|exact fun r=>aD r|exact fun r=>aP_R1 r|exact fun r=>aI r|exact fun r=>aJ r|exact fun r=>aW (.qs [0,1,3,4,5,6,7,8,9,10] (.l 2 [9,6,4,1] (.l 11 [1] (.l 12 [1] (.l 13 [] (.qs [14] (.l 15 [] .nil .no)) .no) .no) .no) .no)) r):G:=h k
theorem z1_So7 {G H:Prop} (k:H) (h:H→G:=by first|exact fun r=>aS r|exact fun r=>aG r|exact fun r=>aD r|exact fun r=>aH r|exact fun r=>aP_R1 r|exact fun r=>aI r|exact fun r=>aJ r|exact fun r=>aW (.qs [0,1,3,4,5,6,7,8,9,10] (.l 2 [9,6,4,1] (.l 11 [1] (.l 12 [1] (.l 13 [] (.qs [14] (.l 15 [] .nil .no)) .no) .no) .no) .no)) r):G:=h k
theorem Run_ok (n:Nt) (hn:NL n) (p:List Pk) (h:SkP n p) (N:Nat) (hN:N≤2000):
  Ctr Tryz.prog 50 [ntv n, .psl 3 (pks p),i64 N] [] (fun r o=>o=[]∧r= .tup [.agg [.psl 1 (trs (trR (toF n p) (liN n) N))],i64 0]):=by
 refine fI 0 Tryz.func50 ?_
 have h60:=h.l
 have hpl:=pks_len p
 have hfl:=fll n.fl
 have hlnl:=lnl n.ln
 have hc8:=chk_n h.h
 (repeat' (conv=>whnf);first|refine aC ?_ ?_<;>intro<;>try omega|refine z1_So7 ?_|fail);all_goals try (conv=>whnf)
 refine aK [] (SChk_ok n hn p (by omega)) ?_
 rw [sck_zero.2 h]
 (repeat' (conv=>whnf);first|refine aC ?_ ?_<;>intro<;>try omega|refine z2_So7 ?_|fail);all_goals try (conv=>whnf)
 refine .mk [.nm 2 0 1] ?_
 refine LoopOb.mk (Y:=Nat) (st:=fun i=>⟨[(32,i64 i),(31,i64 (pks p).length),(30, .psl 3 (pks p)),(9, .ptr 2 0),(6, .ptr 1 0),(3, .ptr 0 0),(1, .psl 3 (pks p)),(2,i64 N)],[nbx n, .box [.nil], .box [.vec 3], .mat 1 ((emM (toF n p) i).map ints)]⟩)
  (inv:=fun i=>i≤p.length) (fun i=>p.length-i) 0 [0,1,2,3] (by omega) (by(exact aL)) ?_
 rintro i hi
 have hel:=emM_len (toF n p) i
 have hel2:((emM (toF n p) i).map ints).length =i:=by rw [List.length_map,hel]
 by_cases hip:i<p.length
 ·have hg:=pks_get hip
  obtain⟨f1,f2,_,_,hG,_⟩:=h.fl hip
  have hfg:=flg (l:=n.fl) (i:=(p.getD i pk0).f.toNat) (by omega)
  have hG1:=hG.l1
  have hG4:=hG.l2
  have hnx:(emM (toF n p) i).map ints++[ints (List.replicate (pfl n (p.getD i pk0)).rt.length (-1))]=(emM (toF n p) (i+1)).map ints:=by
   rw [emM_succ,List.map_append];simp [toF]
  unfold pfl at hnx hG1 hG4
  generalize p.getD i pk0=x at*
  generalize n.fl.getD x.f.toNat fl0=f at*
  have hrl:=ints_len f.rt
  (repeat' (conv=>whnf);first|refine⟨x.f.toNat,_,by omega,hfg,?_⟩|refine⟨i,_,rfl,hg,?_⟩|refine aC ?_ ?_<;>intro<;>try omega|refine z1_So7 ?_|(refine CallOb.mk [5] (Rep_ok f.rt.length (by omega) (by omega) (-1)) rfl ⟨Imp.refl _,Imp.num (by omega),trivial⟩ rfl rfl ?_;rintro _ _ ⟨rfl,rfl⟩)|fail);all_goals try (conv=>whnf)
  exact⟨i+1,[0,1,2,8],by omega,by omega,by rw [←hnx];(exact aL)⟩
 ·obtain rfl:i=p.length:=by omega
  have hR:=h.rts
  have hL:=LnP.of h
  have hE:=emM_sh (toF n p) N
  have hA:Ag (toF n p) 0 (dR (emM (toF n p) p.length)) (tr (toF n p) (liN n) N):=fun i k _ _ h=>by omega
  have hE:ShM (toF n p) N (emM (toF n p) p.length):=hE
  generalize emM (toF n p) p.length=ms0 at*
  clear hel hel2
  (repeat' (conv=>whnf);first|refine aC ?_ ?_<;>intro<;>try omega|refine z1_So7 ?_|fail);all_goals try (conv=>whnf)
  refine LoopOb.mk (Y:=List (List Int)×Nat) (st:=fun y=>⟨[(9, .ptr 2 0),(6, .ptr 1 0),(3, .ptr 0 0),(1, .psl 3 (pks p)),(2,i64 N)],[nbx n, .box [.nil], .box [.vec 3], .mat 1 (y.1.map ints)]⟩)
   (inv:=fun y=>ShM (toF n p) N y.1∧Ag (toF n p) y.2 (dR y.1) (tr (toF n p) (liN n) N)∧y.2≤N) (fun y=>N-y.2) (ms0,0) [0,1,2,3] ⟨hE,hA,by omega⟩ (by(exact aL)) ?_
  rintro⟨ms,k⟩ ⟨hS,hAg,hkN⟩
  dsimp only at hS hAg hkN⊢
  (repeat' (conv=>whnf);first|refine aC ?_ ?_<;>intro<;>try omega|refine z1_So7 ?_|fail);all_goals try (conv=>whnf)
  refine LoopOb.mk (Y:=Nat×Bool×List (List Int)) (st:=fun y=>⟨[(55,i64 y.1),(54,i64 (lns n.ln).length),(12, .bl y.2.1),(9, .ptr 2 0),(6, .ptr 1 0),(3, .ptr 0 0),(1, .psl 3 (pks p)),(2,i64 N)],[nbx n, .box [.nil], .box [.vec 3], .mat 1 (y.2.2.map ints)]⟩)
   (inv:=fun y=>y.1≤n.ln.length∧ShM (toF n p) N y.2.2∧AgL (toF n p) (liN n) N k y.1 (dR y.2.2)∧(y.2.1=false→y.2.2=ms∧∀l,l<y.1→¬ChgM (toF n p) (liN n) N l ms fun _=>true)∧(N≤k→y.2.1=false)) (fun y=>n.ln.length-y.1) (0,false,ms) [0,1,2,3] ⟨by omega,hS,AgL.zero hAg,fun _=>⟨rfl,fun l hl=>by dsimp only at hl;omega⟩,fun _=>rfl⟩ (by(exact aL)) ?_
  rintro⟨l,c,ms'⟩ ⟨hl,hS',hA',hc,hNk⟩
  dsimp only at hl hS' hA' hc hNk⊢
  by_cases hll:l<n.ln.length
  ·have hmo:ms'.length=p.length:=hS'.l
   (repeat' (conv=>whnf);first|refine aC ?_ ?_<;>intro<;>try omega|refine z1_So7 ?_|fail);all_goals try (conv=>whnf)
   refine aM [3] (pass_ok n hn p h N hN ms' hS' l hll) rfl rfl ?_
   rintro _ _ ⟨c',hc',rfl,rfl⟩
   have hinv:ShM (toF n p) N (pasM (toF n p) (liN n) N l ms')∧AgL (toF n p) (liN n) N k (l+1) (dR (pasM (toF n p) (liN n) N l ms'))∧((c||c')=false→pasM (toF n p) (liN n) N l ms'=ms∧∀j,j<l+1→¬ChgM (toF n p) (liN n) N j ms fun _=>true)∧(N≤k→(c||c')=false):=by
    refine⟨pasM_sh hS',AgL.step hR hS' hA',fun e=>?_,fun e=>?_⟩
    ·rw [Bool.or_eq_false_iff]at e
     obtain⟨e1,e2⟩:=hc e.1
     subst e1
     have hn':¬ChgM (toF n p) (liN n) N l ms' fun _=>true:=fun k=>by rw [hc'.2 k]at e;cases e.2
     refine⟨pasM_same hR hS'.l hS'.r hn',fun j hj=>?_⟩
     rcases Nat.lt_succ_iff_lt_or_eq.1 hj with h|h
     ·exact e2 j h
     ·subst h;exact hn'
    ·rw [hNk e,Bool.false_or]
     have:=ag_end hR e hS' hA'.ag
     subst this
     cases c' with
     |false=>rfl
     |true=>exact absurd (hc'.1 rfl) (tr_fix hR)
   generalize pasM (toF n p) (liN n) N l ms'=ms2 at*
   obtain⟨i1,i2,i3,i4⟩:=hinv
   cases c<;>cases c'
   ·(repeat' (conv=>whnf);first|refine aC ?_ ?_<;>intro<;>try omega|refine z1_So7 ?_|fail);all_goals try (conv=>whnf)
    exact⟨(l+1,false,ms2),[0,1,2,3],⟨by dsimp only;omega,i1,i2,i3,i4⟩,by dsimp only;omega,by(exact aL)⟩
   all_goals
    (repeat' (conv=>whnf);first|refine aC ?_ ?_<;>intro<;>try omega|refine z1_So7 ?_|fail);all_goals try (conv=>whnf)
    exact⟨(l+1,true,ms2),[0,1,2,3],⟨by dsimp only;omega,i1,i2,i3,i4⟩,by dsimp only;omega,by(exact aL)⟩
  ·obtain rfl:l=n.ln.length:=by omega
   cases c
   ·obtain⟨e1,e2⟩:=hc rfl
    have:=con_end hR hL hS.l hS.r e2
    subst e1 this
    (repeat' (conv=>whnf);first|refine aC ?_ ?_<;>intro<;>try omega|refine z2_So7 ?_|fail);all_goals try (conv=>whnf)
    refine .mk [.fm 3] ?_
    (repeat' (conv=>whnf);first|refine aC ?_ ?_<;>intro<;>try omega|refine z1_So7 ?_|fail);all_goals try (conv=>whnf)
    exact⟨rfl,rfl⟩
   ·have hk:k<N:=by
     rcases Nat.lt_or_ge k N with h|h
     ·exact h
     ·exact absurd (hNk h) (by simp)
    have hA2:=AgL.done hL hA'
    (repeat' (conv=>whnf);first|refine aC ?_ ?_<;>intro<;>try omega|refine z1_So7 ?_|fail);all_goals try (conv=>whnf)
    exact⟨(ms',k+1),[0,1,2,3],⟨hS',hA2,by dsimp only;omega⟩,by dsimp only;omega,by(exact aL)⟩
end
end Go.Proofs.YtjhmjiimpmmnhaaGreat
section
namespace Go.Mc
open Go.Pk Go.Np
theorem SkP.mono {n:Nt} {p:List Pk} (h:SkP n p):∀{j i:Nat},i≤j→j<p.length→(p.getD i pk0).t ≤(p.getD j pk0).t
 |0,i,h1,_=>by rw [show i=0 by omega];exact Int.le_refl _
 |j+1,i,h1,h2=>by
  rcases Nat.lt_or_ge j i with c|c
  ·rw [show i=j+1 by omega];exact Int.le_refl _
  ·have:=h.mono (j:=j) c (by omega)
   have h3:=h.o (j+1) h2
   have e:lst p (j+1)=(p.getD j pk0).t :=rfl
   omega
end Go.Mc
end
namespace Go.Proofs.YtjhmjiimpmmnhaaGreat
section
open Go.Sx Go.Pk Go.Mc Go.Np
open Classical in
noncomputable def rnG (n:Nt) (p:List Pk) (k:Int):List (List Int)×Int:=if sck n p≠0 then([],sck n p)else if k<0∨2000<k then([],3)else(trR (toF n p) (liN n) k.toNat,0)
abbrev rnV (x:List (List Int)×Int):SV:= .tup [.agg [.psl 1 (trs x.1)],i64 x.2]
theorem rnG_in {n:Nt} {p:List Pk} {k:Int} (h:SkP n p) (h0:0≤k) (h1:k≤2000):rnG n p k=(trR (toF n p) (liN n) k.toNat,0):=by
 unfold rnG
 rw [if_neg (by rw [sck_zero.2 h];simp),if_neg (by omega)]
theorem RunG_ok (n:Nt) (hn:NL n) (p:List Pk) (hp:p.length≤1000) (k:Int):Ctr Tryz.prog 50 [ntv n, .psl 3 (pks p),i64 k] [] (fun r o=>o=[]∧r=rnV (rnG n p k)):=by
 by_cases hg:SkP n p∧0≤k∧k≤2000
 ·obtain⟨h,k0,k1⟩:=hg
  rw [rnG_in h k0 k1]
  obtain⟨N,rfl⟩:∃N:Nat,k=N:=⟨k.toNat,by omega⟩
  exact Run_ok n hn p h N (by omega)
 ·have cS:=SChk_ok n hn p (by omega)
  have hs0:=sck_zero (n:=n) (p:=p)
  unfold rnG
  refine Ctr.imp ?_
  refine fI 0 Tryz.func50 ?_
  generalize sck n p=e at*
  have hg2:¬(e=0∧0≤k∧k≤2000):=fun c=>hg ⟨hs0.1 c.1,c.2⟩
  clear hs0
  (repeat' (conv=>whnf);first|refine aC ?_ ?_<;>intro<;>try omega|refine z1_So7 ?_|(refine aK [] (cS) ?_)|fail);all_goals try (conv=>whnf)
  all_goals refine⟨rfl,?_⟩
  ·rw [if_pos (by assumption)]
   exact Imp.tup ⟨Imp.agg ⟨Imp.nil _,trivial⟩,Imp.refl _,trivial⟩
  all_goals
   rw [if_neg (by assumption),if_pos (by omega)]
   exact Imp.tup ⟨Imp.agg ⟨Imp.nil _,trivial⟩,Imp.refl _,trivial⟩
end
section
open Go.Sx Go.Pk Go.Mc Go.Np
def dnO (D:Tp) (k h:Int):Option Int:=if k<0∨h<0∨D k.toNat h.toNat<0 then none else some (D k.toNat h.toNat)
def enO (n:Nt) (p:List Pk) (D:Tp) (k:Int):Option Int:=if k<0∨(p.length:Int)≤k then none else match dnO D k (hps n p k-1)with
 |none=>none
 |some d=>some (d-(p.getD k.toNat pk0).t)
theorem dR_out {ms:List (List Int)} {i j:Nat} (h:ms.length≤i∨(ms.getD i []).length ≤j):dR ms i j= -1:=by
 unfold dR
 rcases h with h|h
 ·rw [List.getD_eq_getElem?_getD (l:=ms),List.getElem?_eq_none h];simp
 ·rw [List.getD_eq_getElem?_getD,List.getElem?_eq_none h];rfl
theorem dR_in {ms:List (List Int)} {i j:Nat} (h:j<(ms.getD i []).length):(ms.getD i []).getD j 0=dR ms i j:=getD_dflt h
theorem ODone_ok (ms:List (List Int)) (hm:MsL ms) (k h:Int):Ctr Tryz.prog 83 [.agg [.psl 1 (trs ms)],i64 k,i64 h] [] (fun r o=>o=[]∧r=arrT (dnO (dR ms) k h)):=by
 refine fI 0 Tryz.func83 ?_
 have htl:=trs_len ms
 have hml:=hm.l
 have hnone:(k<0∨h<0∨dR ms k.toNat h.toNat<0)→dnO (dR ms) k h=none:=fun c=>if_pos c
 have hsome:¬(k<0∨h<0∨dR ms k.toNat h.toNat<0)→dnO (dR ms) k h=some (dR ms k.toNat h.toNat):=fun c=>if_neg c
 by_cases h1:k<0∨(ms.length:Int)≤k
 ·rw [hnone (h1.elim .inl fun c=> .inr (.inr (by rw [dR_out (.inl (by omega))];omega)))]
  (repeat' (conv=>whnf);first|refine aC ?_ ?_<;>intro<;>try omega|refine z1_R1 ?_|fail);all_goals try (conv=>whnf)
  all_goals exact⟨rfl,rfl⟩
 have hgt:=trs_get (ms:=ms) (i:=k.toNat) (by omega)
 have hrl:=hm.r k.toNat
 have hrv:=hm.v k.toNat
 have hro:=fun j=>dR_out (ms:=ms) (i:=k.toNat) (j:=j)
 have hri:=fun j=>dR_in (ms:=ms) (i:=k.toNat) (j:=j)
 generalize ms.getD k.toNat []=row at*
 have hil:=ints_len row
 by_cases h2:h<0∨(row.length:Int)≤h
 ·rw [hnone (h2.elim (fun c=> .inr (.inl c)) fun c=> .inr (.inr (by rw [hro _ (.inr (by omega))];omega)))]
  (repeat' (conv=>whnf);first|refine⟨k.toNat,_,by omega,hgt,?_⟩|refine aC ?_ ?_<;>intro<;>try omega|refine z1_R1 ?_|fail);all_goals try (conv=>whnf)
  all_goals exact⟨rfl,rfl⟩
 have hgv:=ints_get (l:=row) (j:=h.toNat) (by omega)
 rw [hri _ (by omega)]at hgv
 generalize dR ms k.toNat h.toNat=v at*
 (repeat' (conv=>whnf);first|refine⟨h.toNat,_,by omega,hgv,?_⟩|refine⟨k.toNat,_,by omega,hgt,?_⟩|refine aC ?_ ?_<;>intro<;>try omega|refine z1_R1 ?_|fail);all_goals try (conv=>whnf)
 all_goals first
  |exact⟨rfl,by rw [hnone (by omega)];rfl⟩
  |exact⟨rfl,by rw [hsome (by omega)];rfl⟩
theorem dnO_bd {ms:List (List Int)} (hm:MsL ms) {k h d:Int} (e:dnO (dR ms) k h=some d):0≤d∧d≤4611686018427387904:=by
 unfold dnO at e
 split at e
 ·cases e
 ·rename_i hn
  injection e with e
  by_cases c:h.toNat<(ms.getD k.toNat []).length
  ·rw [←dR_in c]at e;have:=hm.v k.toNat h.toNat;rw [dR_in c]at e this;omega
  ·have:=dR_out (ms:=ms) (i:=k.toNat) (j:=h.toNat) (.inr (by omega));omega
theorem z2_O1 {G H:Prop} (k:H) (h:H→G:=by first|exact fun r=>aS r|exact fun r=>aG r|exact fun r=>aD r|exact fun r=>aH r|exact fun r=>aP_R1 r|exact fun r=>aI r|exact fun r=>aJ r|exact fun r=>aW (.qs [0,1,2,3,4,5,6,7,8,9,10,11,12,13,14,15,16,17,18,19,20,21,22,23,24,25,26] .nil) r|exact fun r=>aW (.qs [0,1,2,3,4,5,6,7,8,9,10] .nil) r):G:=h k
theorem ORouO_ok (n:Nt) (hn:NL n) (p:List Pk) (hp:p.length≤1000) (k:Int) (hk:k<0∨(p.length:Int)≤k):Ctr Tryz.prog 84 [ntv n, .psl 3 (pks p),i64 k] [] (fun r o=>o=[]∧r= .nil):=by
 refine fI 0 Tryz.func84 ?_
 have hpl:=pks_len p
 (repeat' (conv=>whnf);first|refine AsgOb.nil ?_|refine aC ?_ ?_<;>intro<;>try omega|refine z2_O1 ?_|fail);all_goals try (conv=>whnf)
 all_goals exact⟨rfl,rfl⟩
theorem ORouI_ok (n:Nt) (hn:NL n) (p:List Pk) (h:SkP n p) (k:Nat) (hk:k<p.length):Ctr Tryz.prog 84 [ntv n, .psl 3 (pks p),i64 k] [] (fun r o=>o=[]∧r= .psl 1 (ints (pfl n (p.getD k pk0)).rt)):=by
 refine fI 0 Tryz.func84 ?_
 have hpl:=pks_len p
 have hfl:=fll n.fl
 have hg:=pks_get hk
 obtain⟨f1,f2,_,_,hRt,_⟩:=h.fl hk
 have hfg:=flg (l:=n.fl) (i:=(p.getD k pk0).f.toNat) (by omega)
 unfold pfl
 generalize p.getD k pk0=x at*
 (repeat' (conv=>whnf);first|refine⟨x.f.toNat,_,by omega,hfg,?_⟩|refine⟨k,_,rfl,hg,?_⟩|refine AsgOb.nil ?_|refine aC ?_ ?_<;>intro<;>try omega|refine z2_O1 ?_|fail);all_goals try (conv=>whnf)
 exact⟨rfl,rfl⟩
theorem enO_in {n:Nt} {p:List Pk} (h:SkP n p) {D:Tp} {k:Nat} (hk:k<p.length):enO n p D k=match dnO D k (((pfl n (p.getD k pk0)).rt.length :Int)-1)with
  |none=>none
  |some d=>some (d-(p.getD k pk0).t):=by
 unfold enO hps
 obtain⟨f1,f2,_⟩:=h.fl hk
 rw [if_neg (by omega),if_neg (by simp only [Int.toNat_natCast];omega)]
 rfl
theorem z3_O1 {G H:Prop} (k:H) (h:H→G:=by first|exact fun r=>aS r|exact fun r=>aG r|exact fun r=>aD r|exact fun r=>aH r|exact fun r=>aP_R1 r|exact fun r=>aI r|exact fun r=>aJ r|exact fun r=>aW (.qs [0,1,2,3,4] (.l 5 [0] (.qs [6,7] (.l 8 [] (.qs [9,10,11,12,13] .nil) .no)) .no)) r):G:=h k
theorem OEnd_ok (n:Nt) (hn:NL n) (p:List Pk) (h:SkP n p) (ms:List (List Int)) (hm:MsL ms) (k:Int):Ctr Tryz.prog 55 [ntv n, .psl 3 (pks p), .agg [.psl 1 (trs ms)],i64 k] [] (fun r o=>o=[]∧r=arrT (enO n p (dR ms) k)):=by
 refine fI 0 Tryz.func55 ?_
 have h60:=h.l
 have hpl:=pks_len p
 by_cases hk:k<0∨(p.length:Int)≤k
 ·have e:enO n p (dR ms) k=none:=if_pos hk
  rw [e]
  (repeat' (conv=>whnf);first|refine aC ?_ ?_<;>intro<;>try omega|refine z3_O1 ?_|(refine aK [] (ORouO_ok n hn p (by omega) k hk) ?_)|(refine CallOb.mk [] (ODone_ok ms hm k (0-1)) rfl ⟨Imp.refl _,Imp.refl _,Imp.num (by omega),trivial⟩ rfl rfl ?_;rintro _ _ ⟨rfl,rfl⟩;rw [show dnO (dR ms) k (0-1)=none from if_pos (.inr (.inl (by omega)))];simp only [arrT])|fail);all_goals try (conv=>whnf)
  exact⟨rfl,rfl⟩
 ·obtain⟨k,rfl⟩:∃k':Nat,k=k':=⟨k.toNat,by omega⟩
  have hkl:k<p.length:=by omega
  rw [enO_in h hkl]
  have cR:=ORouI_ok n hn p h k hkl
  have hg:=pks_get hkl
  obtain⟨f1,f2,t1,t2,hRt,_⟩:=h.fl hkl
  have r4:=hRt.l2
  have hrl:=ints_len (pfl n (p.getD k pk0)).rt
  generalize (pfl n (p.getD k pk0)).rt =rt at*
  generalize p.getD k pk0=x at*
  have cD:=ODone_ok ms hm k ((rt.length:Int)-1)
  have hb:=fun d=>dnO_bd (d:=d) hm (k:=k) (h:=(rt.length:Int)-1)
  cases hd:dnO (dR ms) k ((rt.length:Int)-1)with
  |none=>
   rw [hd]at cD
   simp only [arrT]at cD
   (repeat' (conv=>whnf);first|refine aC ?_ ?_<;>intro<;>try omega|refine z3_O1 ?_|(refine aK [] cR ?_)|(refine CallOb.mk [] cD rfl ⟨Imp.refl _,Imp.refl _,Imp.num (by omega),trivial⟩ rfl rfl ?_;rintro _ _ ⟨rfl,rfl⟩)|fail);all_goals try (conv=>whnf)
   exact⟨rfl,rfl⟩
  |some d=>
   rw [hd]at cD
   have hb:=hb d hd
   simp only [arrT]at cD
   (repeat' (conv=>whnf);first|refine⟨k,_,rfl,hg,?_⟩|refine aC ?_ ?_<;>intro<;>try omega|refine z3_O1 ?_|(refine aK [] cR ?_)|(refine CallOb.mk [] cD rfl ⟨Imp.refl _,Imp.refl _,Imp.num (by omega),trivial⟩ rfl rfl ?_;rintro _ _ ⟨rfl,rfl⟩)|fail);all_goals try (conv=>whnf)
   exact⟨rfl,rfl⟩
end
section
open Go.Sx Go.Pk Go.Mc Go.Np
structure WrS where
 a:Int
 d:Int
 b:Bool
def worF (n:Nt) (p:List Pk) (D:Tp) (f:Int):Nat→WrS
 |0=>⟨0,0,false⟩
 |i+1=>match enO n p D i with
  |none=>worF n p D f i
  |some d=>if(p.getD i pk0).f =f∧((worF n p D f i).b =false∨(worF n p D f i).d <d)then⟨i,d,true⟩else worF n p D f i
abbrev wrV (s:WrS):SV:= .tup [i64 s.a,i64 s.d, .bl s.b]
theorem OWor_ok (n:Nt) (hn:NL n) (p:List Pk) (h:SkP n p) (ms:List (List Int)) (hm:MsL ms) (f:Int):Ctr Tryz.prog 51 [ntv n, .psl 3 (pks p), .agg [.psl 1 (trs ms)],i64 f] [] (fun r o=>o=[]∧r=wrV (worF n p (dR ms) f p.length)):=by
 refine fI 0 Tryz.func51 ?_
 have h60:=h.l
 have hpl:=pks_len p
 (repeat' (conv=>whnf);first|refine aC ?_ ?_<;>intro<;>try omega|refine z1_R1 ?_|fail);all_goals try (conv=>whnf)
 refine LoopOb.mk (Y:=Nat) (st:=fun i=>⟨[(17,i64 i),(16,i64 (pks p).length),(15, .psl 3 (pks p)),(8,i64 (worF n p (dR ms) f i).a),(9,i64 (worF n p (dR ms) f i).d),(10, .bl (worF n p (dR ms) f i).b),(6, .ptr 1 0),(4, .ptr 0 0),(1, .psl 3 (pks p)),(3,i64 f)],[nbx n, .box [.psl 1 (trs ms)]]⟩)
  (inv:=fun i=>i≤p.length) (fun i=>p.length-i) 0 [0,1] (by omega) (by(exact aL)) ?_
 rintro i hi
 by_cases hil:i<p.length
 ·have hg:=pks_get hil
  have cE:=OEnd_ok n hn p h ms hm i
  have hnx:worF n p (dR ms) f (i+1)=match enO n p (dR ms) i with
   |none=>worF n p (dR ms) f i
   |some d=>if(p.getD i pk0).f =f∧((worF n p (dR ms) f i).b =false∨(worF n p (dR ms) f i).d <d)then⟨i,d,true⟩else worF n p (dR ms) f i:=rfl
  generalize p.getD i pk0=x at*
  generalize worF n p (dR ms) f i=s at*
  obtain⟨sa,sd,sb⟩:=s
  dsimp only at hnx⊢
  cases he:enO n p (dR ms) i with
  |none=>
   rw [he]at cE hnx
   simp only [arrT]at cE hnx
   (repeat' (conv=>whnf);first|refine⟨i,_,rfl,hg,?_⟩|refine aC ?_ ?_<;>intro<;>try omega|refine z1_R1 ?_|(refine aK [] cE ?_)|fail);all_goals try (conv=>whnf)
   all_goals exact⟨i+1,[0,1],by omega,by omega,by rw [hnx];(exact aL)⟩
  |some d=>
   rw [he]at cE hnx
   simp only [arrT]at cE hnx
   cases sb
   ·(repeat' (conv=>whnf);first|refine⟨i,_,rfl,hg,?_⟩|refine aC ?_ ?_<;>intro<;>try omega|refine z1_R1 ?_|(refine aK [] cE ?_)|fail);all_goals try (conv=>whnf)
    all_goals first
     |exact⟨i+1,[0,1],by omega,by omega,by rw [hnx,if_neg (by omega)];(exact aL)⟩
     |exact⟨i+1,[0,1],by omega,by omega,by rw [hnx,if_pos ⟨by omega, .inl rfl⟩];(exact aL)⟩
     |trace_state
   ·have hnx2:=hnx
    simp only [Bool.true_eq_false,false_or]at hnx2
    (repeat' (conv=>whnf);first|refine⟨i,_,rfl,hg,?_⟩|refine aC ?_ ?_<;>intro<;>try omega|refine z1_R1 ?_|(refine aK [] cE ?_)|fail);all_goals try (conv=>whnf)
    all_goals first
     |exact⟨i+1,[0,1],by omega,by omega,by rw [hnx2,if_neg (by omega)];(exact aL)⟩
     |exact⟨i+1,[0,1],by omega,by omega,by rw [hnx2,if_pos ⟨by omega,by omega⟩];(exact aL)⟩
     |trace_state
 ·obtain rfl:i=p.length:=by omega
  (repeat' (conv=>whnf);first|refine aC ?_ ?_<;>intro<;>try omega|refine z1_R1 ?_|fail);all_goals try (conv=>whnf)
  exact⟨rfl,rfl⟩
end
end Go.Proofs.YtjhmjiimpmmnhaaGreat
