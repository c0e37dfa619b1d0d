/- Lemmas that the proofs of this seat use (So7 S10 S11 S12). Conditions: those that stand in each theorem. -/
import Derived.Test.YtaomhdljcdadaaaGreatSo4
import Derived.Test.YtaomhdljcdadaaaGreatSo5
import Derived.Test.YtaomhdljcdadaaaGreatS2
set_option linter.unusedVariables false
set_option linter.unusedSimpArgs false
section
namespace Go.Proofs.YtaomhdljcdadaaaGreat
open Go.Sx Go.Pk Go.Mc Go.Np
set_option maxRecDepth 4000
set_option maxHeartbeats 2000000
def emM (F:Tf) (i:Nat):List (List Int):=(List.range i).map fun j=>List.replicate (F.rt j).length (-1)
theorem emM_succ (F:Tf) (i:Nat):emM F (i+1)=emM F i++[List.replicate (F.rt i).length (-1)]:=by simp [emM,List.range_succ]
theorem emM_len (F:Tf) (i:Nat):(emM F i).length =i:=by simp [emM]
theorem emM_row {F:Tf} {m i:Nat} (h:i<m):(emM F m).getD i []=List.replicate (F.rt i).length (-1):=by simp [emM,List.getD_eq_getElem?_getD,h]
theorem emM_at {F:Tf} {m i k:Nat} (h:i<m) (hk:k<(F.rt i).length):dR (emM F m) i k= -1:=by
 unfold dR
 rw [emM_row h,List.getD_eq_getElem?_getD,List.getElem?_replicate,if_pos hk];rfl
theorem emM_sh (F:Tf) (N:Nat):ShM F N (emM F F.np):=
 ⟨emM_len F _,fun i hi=>by rw [emM_row hi,List.length_replicate],fun i k hi hk=>by rw [emM_at hi hk];omega⟩
theorem LnP.of {n:Nt} {p:List Pk} (h:SkP n p):LnP (toF n p) (liN n):=fun _ _ hi hh=>(h.lnn hi hh).2
theorem aP_So7 {A B K:Prop} (k:K) (a:A:=by(simp only [zA,zT,zD,zC,zN,ints_len,zR,Go.Cv.vals_len];omega)) (b:B:=by(simp only [zA,zT,zD,zC,zN,ints_len,zR,Go.Cv.vals_len];omega)):(A∧B)∧K:=⟨⟨a,b⟩,k⟩
theorem z2_So7 {G H:Prop} (k:H) (h:H→G:=by first|exact fun r=>aS r|exact fun r=>aG r|exact fun r=>aD r|exact fun r=>aP_So7 r|exact fun r=>aI r|exact fun r=>aJ r|exact fun r=>aW (.qs [0,1,3,4,5,6,7,8,9,10] (.l 2 [9,6,4,1] (.l 11 [1] (.l 12 [1] (.l 13 [] (.qs [14] (.l 15 [] .nil .no)) .no) .no) .no) .no)) r):G:=h k
theorem z1_So7 {G H:Prop} (k:H) (h:H→G:=by first|exact fun r=>aS r|exact fun r=>aG r|exact fun r=>aD r|exact fun r=>aH r|exact fun r=>aP_So7 r|exact fun r=>aI r|exact fun r=>aJ r|exact fun r=>aW (.qs [0,1,3,4,5,6,7,8,9,10] (.l 2 [9,6,4,1] (.l 11 [1] (.l 12 [1] (.l 13 [] (.qs [14] (.l 15 [] .nil .no)) .no) .no) .no) .no)) r):G:=h k
theorem Run_ok (n:Nt) (hn:NL n) (p:List Pk) (h:SkP n p) (N:Nat) (hN:N≤2000):
  Ctr Tryz.prog 43 [ntv n, .psl 3 (pks p),i64 N] [] (fun r o=>o=[]∧r= .tup [.agg [.psl 1 (trs (trR (toF n p) (liN n) N))],i64 0]):=by
 refine fn_intro (E:=env 0) tys_ok rfl rfl rfl Tryz.func43 (by kernel_rfl) rfl (by kernel_rfl) ?_
 have h60:=h.l
 have hpl:=pks_len p
 have hfl:=fll n.fl
 have hlnl:=lnl n.ln
 have hc8:=chk_n h.h
 (repeat' (conv=>whnf);first|(refine aC (fun _=>?_) (fun _=>?_)<;>try (exfalso;omega))|refine z1_So7 ?_|fail);all_goals try (conv=>whnf)
 refine aK [] (SChk_ok n hn p (by omega)) ?_
 rw [sck_zero.2 h]
 (repeat' (conv=>whnf);first|(refine aC (fun _=>?_) (fun _=>?_)<;>try (exfalso;omega))|refine z2_So7 ?_|fail);all_goals try (conv=>whnf)
 refine .mk [.nm 2 0 1] ?_
 refine LoopOb.mk (Y:=Nat) (st:=fun i=>⟨[(32,i64 i),(31,i64 (pks p).length),(30, .psl 3 (pks p)),(9, .ptr 2 0),(6, .ptr 1 0),(3, .ptr 0 0),(1, .psl 3 (pks p)),(2,i64 N)],[nbx n, .box [.nil], .box [.vec 3], .mat 1 ((emM (toF n p) i).map ints)]⟩)
  (inv:=fun i=>i≤p.length) (fun i=>p.length-i) 0 [0,1,2,3] (by omega) (by(exact aL)) ?_
 rintro i hi
 have hel:=emM_len (toF n p) i
 have hel2:((emM (toF n p) i).map ints).length =i:=by rw [List.length_map,hel]
 by_cases hip:i<p.length
 ·have hg:=pks_get hip
  obtain⟨f1,f2,_,_,hG,_⟩:=h.fl hip
  have hfg:=flg (l:=n.fl) (i:=(p.getD i pk0).f.toNat) (by omega)
  have hG1:=hG.l1
  have hG4:=hG.l2
  have hnx:(emM (toF n p) i).map ints++[ints (List.replicate (pfl n (p.getD i pk0)).rt.length (-1))]=(emM (toF n p) (i+1)).map ints:=by
   rw [emM_succ,List.map_append];simp [toF]
  unfold pfl at hnx hG1 hG4
  generalize p.getD i pk0=x at*
  generalize n.fl.getD x.f.toNat fl0=f at*
  have hrl:=ints_len f.rt
  (repeat' (conv=>whnf);first|refine⟨x.f.toNat,_,by omega,hfg,?_⟩|refine⟨i,_,rfl,hg,?_⟩|(refine aC (fun _=>?_) (fun _=>?_)<;>try (exfalso;omega))|refine z1_So7 ?_|(refine CallOb.mk [5] (Rep_ok f.rt.length (by omega) (by omega) (-1)) rfl ⟨Imp.refl _,Imp.num (by omega),trivial⟩ rfl rfl ?_;rintro _ _ ⟨rfl,rfl⟩)|fail);all_goals try (conv=>whnf)
  exact⟨i+1,[0,1,2,8],by omega,by omega,by rw [←hnx];(exact aL)⟩
 ·obtain rfl:i=p.length:=by omega
  have hR:=h.rts
  have hL:=LnP.of h
  have hE:=emM_sh (toF n p) N
  have hA:Ag (toF n p) 0 (dR (emM (toF n p) p.length)) (tr (toF n p) (liN n) N):=fun i k _ _ h=>by omega
  have hE:ShM (toF n p) N (emM (toF n p) p.length):=hE
  generalize emM (toF n p) p.length=ms0 at*
  clear hel hel2
  (repeat' (conv=>whnf);first|(refine aC (fun _=>?_) (fun _=>?_)<;>try (exfalso;omega))|refine z1_So7 ?_|fail);all_goals try (conv=>whnf)
  refine LoopOb.mk (Y:=List (List Int)×Nat) (st:=fun y=>⟨[(9, .ptr 2 0),(6, .ptr 1 0),(3, .ptr 0 0),(1, .psl 3 (pks p)),(2,i64 N)],[nbx n, .box [.nil], .box [.vec 3], .mat 1 (y.1.map ints)]⟩)
   (inv:=fun y=>ShM (toF n p) N y.1∧Ag (toF n p) y.2 (dR y.1) (tr (toF n p) (liN n) N)∧y.2≤N) (fun y=>N-y.2) (ms0,0) [0,1,2,3] ⟨hE,hA,by omega⟩ (by(exact aL)) ?_
  rintro⟨ms,k⟩ ⟨hS,hAg,hkN⟩
  dsimp only at hS hAg hkN⊢
  (repeat' (conv=>whnf);first|(refine aC (fun _=>?_) (fun _=>?_)<;>try (exfalso;omega))|refine z1_So7 ?_|fail);all_goals try (conv=>whnf)
  refine LoopOb.mk (Y:=Nat×Bool×List (List Int)) (st:=fun y=>⟨[(55,i64 y.1),(54,i64 (lns n.ln).length),(12, .bl y.2.1),(9, .ptr 2 0),(6, .ptr 1 0),(3, .ptr 0 0),(1, .psl 3 (pks p)),(2,i64 N)],[nbx n, .box [.nil], .box [.vec 3], .mat 1 (y.2.2.map ints)]⟩)
   (inv:=fun y=>y.1≤n.ln.length∧ShM (toF n p) N y.2.2∧AgL (toF n p) (liN n) N k y.1 (dR y.2.2)∧(y.2.1=false→y.2.2=ms∧∀l,l<y.1→¬ChgM (toF n p) (liN n) N l ms fun _=>true)∧(N≤k→y.2.1=false)) (fun y=>n.ln.length-y.1) (0,false,ms) [0,1,2,3] ⟨by omega,hS,AgL.zero hAg,fun _=>⟨rfl,fun l hl=>by dsimp only at hl;omega⟩,fun _=>rfl⟩ (by(exact aL)) ?_
  rintro⟨l,c,ms'⟩ ⟨hl,hS',hA',hc,hNk⟩
  dsimp only at hl hS' hA' hc hNk⊢
  by_cases hll:l<n.ln.length
  ·have hmo:ms'.length=p.length:=hS'.l
   (repeat' (conv=>whnf);first|(refine aC (fun _=>?_) (fun _=>?_)<;>try (exfalso;omega))|refine z1_So7 ?_|fail);all_goals try (conv=>whnf)
   refine aM [3] (pass_ok n hn p h N hN ms' hS' l hll) rfl rfl ?_
   rintro _ _ ⟨c',hc',rfl,rfl⟩
   have hinv:ShM (toF n p) N (pasM (toF n p) (liN n) N l ms')∧AgL (toF n p) (liN n) N k (l+1) (dR (pasM (toF n p) (liN n) N l ms'))∧((c||c')=false→pasM (toF n p) (liN n) N l ms'=ms∧∀j,j<l+1→¬ChgM (toF n p) (liN n) N j ms fun _=>true)∧(N≤k→(c||c')=false):=by
    refine⟨pasM_sh hS',AgL.step hR hS' hA',fun e=>?_,fun e=>?_⟩
    ·rw [Bool.or_eq_false_iff]at e
     obtain⟨e1,e2⟩:=hc e.1
     subst e1
     have hn':¬ChgM (toF n p) (liN n) N l ms' fun _=>true:=fun k=>by rw [hc'.2 k]at e;cases e.2
     refine⟨pasM_same hR hS'.l hS'.r hn',fun j hj=>?_⟩
     rcases Nat.lt_succ_iff_lt_or_eq.1 hj with h|h
     ·exact e2 j h
     ·subst h;exact hn'
    ·rw [hNk e,Bool.false_or]
     have:=ag_end hR e hS' hA'.ag
     subst this
     cases c' with
     |false=>rfl
     |true=>exact absurd (hc'.1 rfl) (tr_fix hR)
   generalize pasM (toF n p) (liN n) N l ms'=ms2 at*
   obtain⟨i1,i2,i3,i4⟩:=hinv
   cases c<;>cases c'
   ·(repeat' (conv=>whnf);first|(refine aC (fun _=>?_) (fun _=>?_)<;>try (exfalso;omega))|refine z1_So7 ?_|fail);all_goals try (conv=>whnf)
    exact⟨(l+1,false,ms2),[0,1,2,3],⟨by dsimp only;omega,i1,i2,i3,i4⟩,by dsimp only;omega,by(exact aL)⟩
   all_goals
    (repeat' (conv=>whnf);first|(refine aC (fun _=>?_) (fun _=>?_)<;>try (exfalso;omega))|refine z1_So7 ?_|fail);all_goals try (conv=>whnf)
    exact⟨(l+1,true,ms2),[0,1,2,3],⟨by dsimp only;omega,i1,i2,i3,i4⟩,by dsimp only;omega,by(exact aL)⟩
  ·obtain rfl:l=n.ln.length:=by omega
   cases c
   ·obtain⟨e1,e2⟩:=hc rfl
    have:=con_end hR hL hS.l hS.r e2
    subst e1 this
    (repeat' (conv=>whnf);first|(refine aC (fun _=>?_) (fun _=>?_)<;>try (exfalso;omega))|refine z2_So7 ?_|fail);all_goals try (conv=>whnf)
    refine .mk [.fm 3] ?_
    (repeat' (conv=>whnf);first|(refine aC (fun _=>?_) (fun _=>?_)<;>try (exfalso;omega))|refine z1_So7 ?_|fail);all_goals try (conv=>whnf)
    exact⟨rfl,rfl⟩
   ·have hk:k<N:=by
     rcases Nat.lt_or_ge k N with h|h
     ·exact h
     ·exact absurd (hNk h) (by simp)
    have hA2:=AgL.done hL hA'
    (repeat' (conv=>whnf);first|(refine aC (fun _=>?_) (fun _=>?_)<;>try (exfalso;omega))|refine z1_So7 ?_|fail);all_goals try (conv=>whnf)
    exact⟨(ms',k+1),[0,1,2,3],⟨hS',hA2,by dsimp only;omega⟩,by dsimp only;omega,by(exact aL)⟩
end Go.Proofs.YtaomhdljcdadaaaGreat
end
section
namespace Go.Proofs.YtaomhdljcdadaaaGreat
open Go.Sx Go.Pk Go.Mc
set_option maxRecDepth 4000
set_option maxHeartbeats 2000000
abbrev stV (t now:Int):SV:= .agg [i64 t, .vec 0,i64 now, .vec 1, .vec 2]
abbrev stO (m:Nat) (G dn:Nat→Int) (ms:List (List Int)):List Chunk:=[.vec 1 (ivs m G), .vec 1 (ivs m dn), .mat 1 (mtz ms)]
def bgO (G:Nat→Int) (now:Int) (i:Nat):Bool:=decide (G i≠0∨now=i)
theorem aP_S10 {A B K:Prop} (k:K) (a:A:=by(simp only [zA,zT,zD,zC,zN,ints_len,zR,Go.Cv.vals_len];omega)) (b:B:=by(simp only [zA,zT,zD,zC,zN,ints_len,zR,Go.Cv.vals_len];omega)):(A∧B)∧K:=⟨⟨a,b⟩,k⟩
theorem z1_S10 {G H:Prop} (k:H) (h:H→G:=by first|exact fun r=>aS r|exact fun r=>aG r|exact fun r=>aD r|exact fun r=>aH r|exact fun r=>aP_S10 r|exact fun r=>aI r|exact fun r=>aJ r|exact fun r=>aW (.qs [0,1,2,3,4,5,6,7,8,9,10,11,12,13,14,15,16,17,18,19,20,21,22] .nil) r):G:=h k
theorem RWaits_ok (p:List Pk) (hp:p.length≤1000) (t:Nat) (now:Int) (G dn:Nat→Int) (ms:List (List Int)) (i:Nat) (hi:i<p.length):
  Ctr Tryz.prog 193 [stV t now, .psl 3 (pks p),i64 i] (stO p.length G dn ms) (fun r o=>o=stO p.length G dn ms∧((∃P:Prop,(P↔wt p t (bgO G now) i=true)∧r= .bp P)∨(¬wt p t (bgO G now) i=true∧r= .bl false))):=by
 refine fn_intro (E:=env 3) tys_ok rfl rfl rfl Tryz.func193 (by kernel_rfl) rfl (by kernel_rfl) ?_
 have hpl:=pks_len p
 have hil:=ivs_len p.length G
 have gg:=ivs_get (f:=G) hi
 have gp:=pks_get hi
 have hw:wt p t (bgO G now) i=true↔((p.getD i pk0).t ≤t∧G i=0∧¬now=i):=by
  rw [wt_iff]
  unfold bgO tm
  simp only [decide_eq_false_iff_not,not_or,Decidable.not_not]
  exact⟨fun h=>h.2,fun h=>⟨hi,h⟩⟩
 generalize p.getD i pk0=x at*
 generalize G i=u at*
 (repeat' (conv=>whnf);first|refine⟨i,_,rfl,gp,?_⟩|(refine aC (fun _=>?_) (fun _=>?_)<;>try (exfalso;omega))|refine z1_S10 ?_|refine⟨i,rfl,by omega,?_⟩|refine⟨_,gg,?_⟩|fail);all_goals try (conv=>whnf)
 all_goals first
  |exact⟨rfl, .inl ⟨now≠i,by rw [hw];omega,rfl⟩⟩
  |exact⟨rfl, .inr ⟨by rw [hw];omega,rfl⟩⟩
theorem z2_S10 {G H:Prop} (k:H) (h:H→G:=by first|exact fun r=>aS r|exact fun r=>aG r|exact fun r=>aD r|exact fun r=>aH r|exact fun r=>aP_S10 r|exact fun r=>aI r|exact fun r=>aJ r):G:=h k
theorem RFirst_ok (p:List Pk) (hp:p.length≤1000) (t:Nat) (now:Int) (G dn:Nat→Int) (ms:List (List Int)) (c:Int) (q:Nat→Bool) (hq:∀i,i<p.length→(q i=true↔((c= -1∨cl p i=c)∧wt p t (bgO G now) i=true))):
  Ctr Tryz.prog 169 [stV t now, .psl 3 (pks p),i64 c] (stO p.length G dn ms) (fun r o=>o=stO p.length G dn ms∧r=i64 (oI (fst q p.length))):=by
 refine fn_intro (E:=env 3) tys_ok rfl rfl rfl Tryz.func169 (by kernel_rfl) rfl (by kernel_rfl) ?_
 have hpl:=pks_len p
 (repeat' (conv=>whnf);first|(refine aC (fun _=>?_) (fun _=>?_)<;>try (exfalso;omega))|refine z2_S10 ?_|fail);all_goals try (conv=>whnf)
 refine LoopOb.mk (Y:=Nat) (st:=fun i=>⟨[(7,i64 i),(3, .ptr 3 0),(1, .psl 3 (pks p)),(2,i64 c)],stO p.length G dn ms++[.box [i64 t, .vec 0,i64 now, .vec 1, .vec 2]]⟩)
  (inv:=fun i=>i≤p.length∧∀j,j<i→q j=false) (fun i=>p.length-i) 0 [0,1,2,3] ⟨by omega,fun j hj=>by omega⟩ (by(exact aL)) ?_
 rintro i ⟨hi,hn⟩
 by_cases hil:i<p.length
 ·have gp:=pks_get hil
  have hqi:=hq i hil
  have hyes:q i=true→fst q p.length=some i:=fun h=>fst_some.2 ⟨hil,h,hn⟩
  have hnx:¬q i=true→∀j,j<i+1→q j=false:=fun h j hj=>by
   by_cases e:j=i
   ·subst e;simpa using h
   ·exact hn j (by omega)
  have cW:=RWaits_ok p hp t now G dn ms i hil
  unfold cl at hqi
  generalize p.getD i pk0=x at*
  (repeat' (conv=>whnf);first|refine⟨i,_,rfl,gp,?_⟩|(refine aC (fun _=>?_) (fun _=>?_)<;>try (exfalso;omega))|refine z2_S10 ?_|(refine aM [0,1,2] cW rfl rfl ?_;rintro _ _ ⟨rfl,(⟨P,hP,rfl⟩|⟨hP,rfl⟩)⟩)|fail);all_goals try (conv=>whnf)
  all_goals first
   |exact⟨rfl,by rw [hyes (hqi.2 ⟨by omega,hP.1 (by assumption)⟩)];rfl⟩
   |exact⟨i+1,[0,1,2,3],⟨by omega,hnx fun h=>by have:=(hqi.1 h).1;omega⟩,by omega,by(exact aL)⟩
   |exact⟨i+1,[0,1,2,3],⟨by omega,hnx fun h=>absurd (hP.2 (hqi.1 h).2) (by assumption)⟩,by omega,by(exact aL)⟩
   |exact⟨i+1,[0,1,2,3],⟨by omega,hnx fun h=>hP (hqi.1 h).2⟩,by omega,by(exact aL)⟩
   |trace_state
 ·obtain rfl:i=p.length:=by omega
  (repeat' (conv=>whnf);first|(refine aC (fun _=>?_) (fun _=>?_)<;>try (exfalso;omega))|refine z2_S10 ?_|fail);all_goals try (conv=>whnf)
  exact⟨rfl,by rw [fst_none.2 hn];rfl⟩
end Go.Proofs.YtaomhdljcdadaaaGreat
end
section
namespace Go.Proofs.YtaomhdljcdadaaaGreat
open Go.Sx Go.Pk Go.Mc
set_option maxRecDepth 4000
set_option maxHeartbeats 2000000
theorem aP_S11 {A B K:Prop} (k:K) (a:A:=by(simp only [zA,zT,zD,zC,zN,ints_len,zR,Go.Cv.vals_len];omega)) (b:B:=by(simp only [zA,zT,zD,zC,zN,ints_len,zR,Go.Cv.vals_len];omega)):(A∧B)∧K:=⟨⟨a,b⟩,k⟩
theorem z2_S11 {G H:Prop} (k:H) (h:H→G:=by first|exact fun r=>aS r|exact fun r=>aG r|exact fun r=>aD r|exact fun r=>aP_S11 r|exact fun r=>aI r|exact fun r=>aJ r|exact fun r=>aW (.qs [0,1,2,3,4,5,6,7,8,9,10] (.l 11 [2] (.l 12 [2] (.qs [13] (.l 14 [] .nil .no)) .no) .no)) r):G:=h k
theorem z1_S11 {G H:Prop} (k:H) (h:H→G:=by first|exact fun r=>aS r|exact fun r=>aG r|exact fun r=>aD r|exact fun r=>aH r|exact fun r=>aP_S11 r|exact fun r=>aI r|exact fun r=>aJ r|exact fun r=>aW (.qs [0,1,2,3,4,5,6,7,8,9,10] (.l 11 [2] (.l 12 [2] (.qs [13] (.l 14 [] .nil .no)) .no) .no)) r):G:=h k
theorem RBegin_ok (N T:Nat) (hT:T≤2000) (B:Int) (hB:B≤10000000) (t now:Int) (m:Nat) (G dn:Nat→Int) (ms:List (List Int)) (hS:Sn N (fun _=>T+1) B ms) (hN1:1≤N) (hN:N≤6):
  Ctr Tryz.prog 164 [stV t now] (stO m G dn ms) (fun r o=>∃m2,Sn N (fun _=>T+2) B m2∧o=[.vec 1 (ivs m G), .vec 1 (ivs m dn), .dead, .box [i64 t, .vec 0,i64 now, .vec 1, .vec 4], .mat 1 (mtz m2)]∧r= .agg [i64 t, .vec 0,i64 now, .vec 1, .vec 4]):=by
 refine fn_intro (E:=env 3) tys_ok rfl rfl rfl Tryz.func164 (by kernel_rfl) rfl (by kernel_rfl) ?_
 have hml:=(mtz_len ms).trans hS.l
 (repeat' (conv=>whnf);first|(refine aC (fun _=>?_) (fun _=>?_)<;>try (exfalso;omega))|refine z1_S11 ?_|fail);all_goals try (conv=>whnf)
 refine LoopOb.mk (Y:=Bool×Nat×List (List Int)) (st:=fun y=>⟨[(3,i64 y.2.1),(2, .ptr 4 0),(1, .ptr 3 0)],match y.1 with
   |false=>[.vec 1 (ivs m G), .vec 1 (ivs m dn), .mat 1 (mtz y.2.2), .box [i64 t, .vec 0,i64 now, .vec 1, .vec 2], .box [i64 0, .nil,i64 0, .nil, .nil]]
   |true=>[.vec 1 (ivs m G), .vec 1 (ivs m dn), .dead, .box [i64 t, .vec 0,i64 now, .vec 1, .vec 5], .box [i64 0, .nil,i64 0, .nil, .nil], .mat 1 (mtz y.2.2)]⟩)
  (inv:=fun y=>y.2.1≤N∧Sn N (fun j=>if j<y.2.1 then T+2 else T+1) B y.2.2∧(y.1=false→y.2.1=0)) (fun y=>N-y.2.1) (false,0,ms) [0,1,2,3,4] ⟨Nat.zero_le _,by simpa using hS,fun _=>rfl⟩ (by(exact aL)) ?_
 rintro⟨b,k,m2⟩ ⟨hk,hm2,hb⟩
 dsimp only at hk hm2 hb⊢
 have hml2:=(mtz_len m2).trans hm2.l
 by_cases hkN:k<N
 ·have hgr:=mtz_get (ms:=m2) (c:=k) (by have:=hm2.l;omega)
  have hrl:=hm2.r k hkN
  rw [if_neg (by omega)]at hrl
  have hrv:=hm2.v k hkN
  have hst:=fun r h1 h3=>hm2.set (B':=B) (len':=fun j=>if j<k+1 then T+2 else T+1) (Int.le_refl _) hkN (r:=r) h1 (fun j hj=>by
   by_cases h:j<k
   ·rw [if_pos h,if_pos (by omega)]
   ·rw [if_neg h,if_neg (by omega)]) h3
  generalize m2.getD k []=row at*
  have hil2:=ints_len row
  have hgv:=ints_get (l:=row) (j:=T) (by omega)
  generalize hv:row.getD T 0=v at*
  have h1:(row++[v]).length =if k<k+1 then T+2 else T+1:=by rw [if_pos (by omega),List.length_append,List.length_singleton];omega
  have h3:∀j,0≤(row++[v]).getD j 0∧(row++[v]).getD j 0≤B:=fun j=>by
   rw [getD_app]
   split
   ·exact hrv j
   ·split
    ·rw [←hv];exact hrv T
    ·have:=hrv 0;omega
  have hmm:∀j:Nat,(mtz m2).set k (ints row++[[i64 v]])=mtz (m2.set k (row++[v])):=fun _=>by rw [←mtz_set,show ints (row++[v])=ints row++[[i64 v]]by simp [ints]]
  cases b
  ·dsimp only
   (repeat' (conv=>whnf);first|refine DrawOb.re [] (.qs [0,1,2,3,4,5,6,7,8,9,10] (.l 11 [2] (.l 12 [2] (.qs [13] (.l 14 [] .nil .no)) .no) .no)) (by decide+kernel) ?_|(refine aC (fun _=>?_) (fun _=>?_)<;>try (exfalso;omega))|refine z1_S11 ?_|refine And.intro ⟨rfl,rfl⟩ ?_|refine⟨k,rfl,by omega,?_⟩|refine And.intro (show k<(mtz m2).length by omega) ?_|refine⟨T,_,by omega,hgr,by omega,?_⟩|refine⟨_,_,hgr,hgv,?_⟩|refine⟨_,hgr,?_⟩|refine And.intro (rfl:k=k) ?_|fail);all_goals try (conv=>whnf)
   exact⟨(true,k+1,m2.set k (row++[v])),[0,1,2,3,4,9],⟨by dsimp only;omega,hst _ h1 h3,fun e=>by cases e⟩,by dsimp only;omega,by dsimp only;rw [←hmm 0];(exact aL)⟩
  ·dsimp only
   (repeat' (conv=>whnf);first|refine DrawOb.re [] (.qs [0,1,2,3,4,5,6,7,8,9,10] (.l 11 [2] (.l 12 [2] (.qs [13] (.l 14 [] .nil .no)) .no) .no)) (by decide+kernel) ?_|(refine aC (fun _=>?_) (fun _=>?_)<;>try (exfalso;omega))|refine z1_S11 ?_|refine And.intro ⟨rfl,rfl⟩ ?_|refine⟨k,rfl,by omega,?_⟩|refine And.intro (show k<(mtz m2).length by omega) ?_|refine⟨T,_,by omega,hgr,by omega,?_⟩|refine⟨_,_,hgr,hgv,?_⟩|refine⟨_,hgr,?_⟩|refine And.intro (rfl:k=k) ?_|fail);all_goals try (conv=>whnf)
   exact⟨(true,k+1,m2.set k (row++[v])),[0,1,2,3,4,10],⟨by dsimp only;omega,hst _ h1 h3,fun e=>by cases e⟩,by dsimp only;omega,by dsimp only;rw [←hmm 0];(exact aL)⟩
 ·obtain rfl:N=k:=by omega
  have hfin:Sn N (fun _=>T+2) B m2:=⟨hm2.l,fun j hj=>by rw [hm2.r j hj,if_pos hj],hm2.v⟩
  cases b
  ·have:=hb rfl;omega
  ·dsimp only
   (repeat' (conv=>whnf);first|(refine aC (fun _=>?_) (fun _=>?_)<;>try (exfalso;omega))|refine z2_S11 ?_|fail);all_goals try (conv=>whnf)
   refine .mk [.wk [0,1,2,4,5] ⟨[(2, .ptr 3 0)],[.vec 1 (ivs m G), .vec 1 (ivs m dn), .dead, .box [i64 t, .vec 0,i64 now, .vec 1, .vec 4], .mat 1 (mtz m2)]⟩] ⟨by(exact aL),?_⟩
   (repeat' (conv=>whnf);first|(refine aC (fun _=>?_) (fun _=>?_)<;>try (exfalso;omega))|refine z2_S11 ?_|fail);all_goals try (conv=>whnf)
   exact⟨m2,hfin,rfl,rfl⟩
end Go.Proofs.YtaomhdljcdadaaaGreat
end
section
namespace Go.Proofs.YtaomhdljcdadaaaGreat
open Go.Sx Go.Pk Go.Mc
set_option maxRecDepth 4000
set_option maxHeartbeats 2000000
theorem ivs_app (i:Nat) (f:Nat→Int):ivs (i+1) f=ivs i f++[[i64 (f i)]]:=by simp [ivs,List.range_succ]
theorem rw0_rep (k:Nat):rw0 k k=List.replicate k [0]:=by
 refine List.ext_getElem (by simp [rw0]) fun i h1 h2=>?_
 simp [rw0]at h1⊢;omega
theorem rw0_app (k:Nat):mtz (rw0 (k+1) (k+1))=mtz (rw0 k k)++[[[i64 0]]]:=by
 rw [rw0_rep,rw0_rep,List.replicate_succ',mtz,List.map_append];rfl
theorem aP_S12 {A B K:Prop} (k:K) (a:A:=by(simp only [zA,zT,zD,zC,zN,ints_len,zR,Go.Cv.vals_len];omega)) (b:B:=by(simp only [zA,zT,zD,zC,zN,ints_len,zR,Go.Cv.vals_len];omega)):(A∧B)∧K:=⟨⟨a,b⟩,k⟩
theorem z2_S12 {G H:Prop} (k:H) (h:H→G:=by first|exact fun r=>aS r|exact fun r=>aG r|exact fun r=>aD r|exact fun r=>aH r|exact fun r=>aP_S12 r|exact fun r=>aI r|exact fun r=>aJ r):G:=h k
theorem z1_S12 {G H:Prop} (k:H) (h:H→G:=by first|exact fun r=>aS r|exact fun r=>aG r|exact fun r=>aD r|exact fun r=>aP_S12 r|exact fun r=>aI r|exact fun r=>aJ r):G:=h k
theorem RNew_ok (N:Nat) (hN:1≤N) (hN2:N≤6) (p:List Pk) (hp:p.length≤60):
  Ctr Tryz.prog 163 [i64 N, .psl 3 (pks p)] [] (fun r o=>o=stO p.length (fun _=>0) (fun _=> -1) (rw0 N N)++[.box [i64 0, .vec 0,i64 (-1), .vec 1, .vec 2]]∧r=stV 0 (-1)):=by
 refine fn_intro (E:=env 0) tys_ok rfl rfl rfl Tryz.func163 (by kernel_rfl) rfl (by kernel_rfl) ?_
 have hpl:=pks_len p
 (repeat' (conv=>whnf);first|(refine aC (fun _=>?_) (fun _=>?_)<;>try (exfalso;omega))|refine z1_S12 ?_|refine⟨_,_,rfl,rfl,Nat.le_refl _,⟨by(simp only;omega),by omega⟩,?_⟩|fail);all_goals try (conv=>whnf)
 have hr:List.replicate (pks p).length [i64 0]=ivs p.length (fun _=>0):=by rw [hpl];exact ivs_rep _ 0
 have hil:=fun(m:Nat) (f:Nat→Int)=>ivs_len m f
 refine .mk [.nb 2 3 1, .nm 2 4 1] ?_
 refine LoopOb.mk (Y:=Nat) (st:=fun i=>⟨[(6,i64 i),(5, .ptr 2 0),(4, .ptr 0 0),(0,i64 N),(1, .psl 3 (pks p))],[.box [i64 0, .nil,i64 0, .nil, .nil], .vec 1 (ivs p.length (fun _=>0)), .box [i64 0, .vec 1,i64 (-1), .vec 3, .vec 4], .vec 1 (ivs i (fun _=> -1)), .mat 1 []]⟩)
  (inv:=fun i=>i≤p.length) (fun i=>p.length-i) 0 [0,1,2,3,4] (by omega) (by rw [←hr];(exact aL)) ?_
 rintro i hi
 have h1:=hil i (fun _=> -1)
 by_cases hlt:i<p.length
 ·(repeat' (conv=>whnf);first|(refine aC (fun _=>?_) (fun _=>?_)<;>try (exfalso;omega))|refine z2_S12 ?_|fail);all_goals try (conv=>whnf)
  exact⟨i+1,[0,1,2,6,4],by omega,by omega,by rw [ivs_app];(exact aL)⟩
 ·obtain rfl:i=p.length:=by omega
  (repeat' (conv=>whnf);first|(refine aC (fun _=>?_) (fun _=>?_)<;>try (exfalso;omega))|refine z2_S12 ?_|fail);all_goals try (conv=>whnf)
  have hml:=fun k=>(mtz_len (rw0 k k)).trans (rw0_len k k)
  refine LoopOb.mk (Y:=Nat) (st:=fun k=>⟨[(7,i64 k),(5, .ptr 2 0),(4, .ptr 0 0),(0,i64 N),(1, .psl 3 (pks p))],[.box [i64 0, .nil,i64 0, .nil, .nil], .vec 1 (ivs p.length (fun _=>0)), .box [i64 0, .vec 1,i64 (-1), .vec 3, .vec 4], .vec 1 (ivs p.length (fun _=> -1)), .mat 1 (mtz (rw0 k k))]⟩)
   (inv:=fun k=>k≤N) (fun k=>N-k) 0 [0,1,2,3,4] (by omega) (by(exact aL)) ?_
  rintro k hk
  have h2:=hml k
  by_cases hlt:k<N
  ·(repeat' (conv=>whnf);first|(refine aC (fun _=>?_) (fun _=>?_)<;>try (exfalso;omega))|refine z2_S12 ?_|fail);all_goals try (conv=>whnf)
   exact⟨k+1,[0,1,2,3,7],by omega,by omega,by rw [rw0_app];(exact aL)⟩
  ·obtain rfl:N=k:=by omega
   (repeat' (conv=>whnf);first|(refine aC (fun _=>?_) (fun _=>?_)<;>try (exfalso;omega))|refine z1_S12 ?_|fail);all_goals try (conv=>whnf)
   refine .mk [.wk [1,3,4,0] ⟨[(4, .ptr 3 0)],stO p.length (fun _=>0) (fun _=> -1) (rw0 N N)++[.box [i64 0, .vec 0,i64 (-1), .vec 1, .vec 2]]⟩] ⟨by(exact aL),?_⟩
   (repeat' (conv=>whnf);first|(refine aC (fun _=>?_) (fun _=>?_)<;>try (exfalso;omega))|refine z1_S12 ?_|fail);all_goals try (conv=>whnf)
   exact⟨rfl,rfl⟩
end Go.Proofs.YtaomhdljcdadaaaGreat
end
