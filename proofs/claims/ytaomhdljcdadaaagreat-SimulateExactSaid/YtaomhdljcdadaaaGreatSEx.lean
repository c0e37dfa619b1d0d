/- Lemmas that the proofs of this seat use (SEx). Conditions: those that stand in each theorem. -/
import Derived.Test.YtaomhdljcdadaaaGreatSx5a
import Derived.Test.YtaomhdljcdadaaaGreatCn4
import Derived.Test.YtaomhdljcdadaaaGreatCn5
import Derived.Test.YtaomhdljcdadaaaGreatSd1
import Derived.Test.YtaomhdljcdadaaaGreatNw
import Derived.Test.YtaomhdljcdadaaaGreatKw
set_option linter.unusedVariables false
set_option linter.unusedSimpArgs false
namespace Go.Proofs.YtaomhdljcdadaaaGreat
open Go.Sx Go.Pk Go.Mc Go.Np
set_option maxRecDepth 4000
set_option maxHeartbeats 2000000
theorem NetG.szs35 {ml mf k:Nat} {n:Nt} (h:NetG ml mf k n):∀f∈n.fl,1≤f.lo∧f.lo≤f.hi∧f.hi≤1500:=fun f hf=>by
 have:=h.g.fg f hf
 have h1:=this.lo
 have h2:=this.hi
 omega
theorem need_mk {α:Type} {o:Option α} {k:α→Prop} {a:α} (h:o=some a) (hk:k a):need o k:=by rw [h];exact hk
theorem noteq {α:Sort _} {a:α} (h:¬a=a):False:=h rfl
theorem noiff {p:Prop} (h:¬(p↔p)):False:=h Iff.rfl
theorem arrT_eq (o:Option Int):arrT o= .tup [i64 (o.getD 0), .bl o.isSome]:=by cases o<;>rfl
theorem rnG_sh {n:Nt} {p:List Pk} {k:Int}:TrS (rnG n p k).1 :=by
 have hnil:TrS []:=⟨by simp,fun r hr=>by simp at hr,fun r hr=>by simp at hr⟩
 by_cases h:SkP n p
 ·by_cases hk:0≤k∧k≤2000
  ·rw [rnG_in h hk.1 hk.2]
   have hS:=trR_sh (F:=toF n p) (Z:=liN n) (N:=k.toNat) h.rts
   have h60:=h.l
   have hl:(trR (toF n p) (liN n) k.toNat).length =p.length:=hS.l
   generalize trR (toF n p) (liN n) k.toNat=A at*
   have hr:∀r∈A,r.length≤4∧∀x∈r,-1≤x∧x≤2000:=fun r hr=>by
    obtain⟨i,hi,rfl⟩:=List.getElem_of_mem hr
    have e:A.getD i []=A[i]:=by rw [List.getD_eq_getElem?_getD,List.getElem?_eq_getElem hi];rfl
    have h1:=hS.r i (by show i<p.length;omega)
    rw [e]at h1
    have h2:=(h.fl (i:=i) (by omega)).2.2.2.2.1.l2
    have h3:((toF n p).rt i).length =(pfl n (p.getD i pk0)).rt.length :=List.length_map _
    refine⟨by omega,fun x hx=>?_⟩
    obtain⟨j,hj,rfl⟩:=List.getElem_of_mem hx
    have h4:=hS.b i j (by show i<p.length;omega) (by omega)
    unfold dR at h4
    rw [e,List.getD_eq_getElem?_getD,List.getElem?_eq_getElem hj]at h4
    simp only [Option.getD_some]at h4
    omega
   exact⟨by dsimp only;omega,fun r h=>by have:=(hr r h).1;omega,fun r h x hx=>by have:=(hr r h).2 x hx;omega⟩
  ·unfold rnG
   rw [if_neg (by rw [sck_zero.2 h];simp),if_pos (by omega)];exact hnil
 ·unfold rnG
  rw [if_pos (fun c=>h (sck_zero.1 c))];exact hnil
theorem aP_SEx {A B K:Prop} (k:K) (a:A:=by(simp only [zA,zT,zD,zC,zN,ints_len,zR,Go.Cv.vals_len];omega)) (b:B:=by(simp only [zA,zT,zD,zC,zN,ints_len,zR,Go.Cv.vals_len];omega)):(A∧B)∧K:=⟨⟨a,b⟩,k⟩
theorem z2_SEx {G H:Prop} (k:H) (h:H→G:=by first|exact fun r=>aS r|exact fun r=>aG r|exact fun r=>aD r|exact fun r=>aP_SEx r|exact fun r=>aI r|exact fun r=>aJ r|exact fun r=>aW (.qs [0,1,2,4,6] (.l 3 [4,0] (.qs [5] .nil) .no)) r|exact fun r=>aW (.qs [0,1,3,4] (.l 2 [3] (.l 5 [] (.qs [6] .nil) .no) .no)) r|exact fun r=>aW (.qs [0,1,2,4,6] (.l 3 [4,0] (.qs [5] .nil) .no)) r|exact fun r=>aW (.qs [0,1,2,3,5,6,7,8] (.l 4 [7,5] (.l 9 [] (.qs [10] .nil) .no) .no)) r):G:=h k
theorem z1_SEx {G H:Prop} (k:H) (h:H→G:=by first|exact fun r=>aS r|exact fun r=>aG r|exact fun r=>aD r|exact fun r=>aH r|exact fun r=>aP_SEx r|exact fun r=>aI r|exact fun r=>aJ r|exact fun r=>aW (.qs [0,1,2,4,6] (.l 3 [4,0] (.qs [5] .nil) .no)) r|exact fun r=>aW (.qs [0,1,3,4] (.l 2 [3] (.l 5 [] (.qs [6] .nil) .no) .no)) r|exact fun r=>aW (.qs [0,1,2,4,6] (.l 3 [4,0] (.qs [5] .nil) .no)) r|exact fun r=>aW (.qs [0,1,2,3,5,6,7,8] (.l 4 [7,5] (.l 9 [] (.qs [10] .nil) .no) .no)) r):G:=h k
theorem sExact_ok (l:List Int) (hl:l.length≤9223372036854775807) (raw:Nt) (hraw:NL raw) (odd:List Pk) (hodd:odd.length≤9223372036854775807) (tr:List (List Int)) (htr:tr.length≤9223372036854775807) (htr2:∀i,(tr.getD i []).length ≤9223372036854775807) (tk pk hk lk:Int):
  Ctr Tryz.prog 6 [.psl 1 (ints l),ntv raw, .psl 3 (pks odd), .agg [.psl 1 (trs tr)],i64 tk,i64 pk,i64 hk,i64 lk] [] (fun r o=>r= .bl true):=by
 refine fn_intro (E:=env 0) tys_ok rfl rfl rfl Tryz.func6 (by kernel_rfl) rfl (by kernel_rfl) ?_
 have hil:=ints_len l
 have h1:=stl raw.nm
 have h2:=lnl raw.ln
 have h3:=fll raw.fl
 have h4:=pks_len odd
 have h5:=trs_len tr
 have cW:=wild_ok tr htr htr2
 (repeat' (conv=>whnf);first|refine aC (fun _=>?_) (fun _=>?_)|refine z1_SEx ?_|(refine aK [] (sane_ok) ?_)|(refine aM [] cW rfl rfl ?_;rintro _ _ ⟨rfl,b,hb,rfl⟩;cases b)|fail);all_goals try (conv=>whnf)
 all_goals try rfl
 have hb0:VB tr:=hb rfl
 clear hb cW
 have hmT:TrG tr:=⟨⟨htr,htr2,fun i j=>by
  have:=hb0 i j
  by_cases hj:j<(tr.getD i []).length
  ·rw [show(tr.getD i []).getD j 0=dR tr i j from getD_dflt hj];omega
  ·rw [List.getD_eq_getElem?_getD,List.getElem?_eq_none (by omega)];simp⟩,hb0⟩
 have hL:(l.take 2000).length ≤2000:=by rw [List.length_take];omega
 refine aK [] (New_ok l hl) ?_
 (repeat' (conv=>whnf);first|(refine aC (fun _=>?_) (fun _=>?_)<;>try (exfalso;omega))|refine z1_SEx ?_|fail);all_goals try (conv=>whnf)
 refine aM [2] (Net_ok _ 0 hL (by omega) 3 4 (by omega) (by omega)) rfl rfl ?_
 rintro _ _ ⟨⟨n,k,p1⟩,⟨hG,hp1⟩,rfl,rfl⟩
 dsimp only at hG hp1⊢
 have hn:=hG.nl
 have hmf:=hG.mf
 have hsz:=hG.szs35
 (repeat' (conv=>whnf);first|(refine aC (fun _=>?_) (fun _=>?_)<;>try (exfalso;omega))|refine z1_SEx ?_|fail);all_goals try (conv=>whnf)
 refine aM [2] (Sends_ok _ p1 hL hp1 n hn (by omega) hsz 10 (by omega)) rfl rfl ?_
 rintro _ _ ⟨⟨p,p2⟩,⟨hS,hp14,hp2⟩,rfl,rfl⟩
 dsimp only at hS hp14 hp2⊢
 have hpl:=pks_len p
 (repeat' (conv=>whnf);first|refine DrawOb.mk [.fz 4] (.qs [0,1,2,4,6] (.l 3 [4,0] (.qs [5] .nil) .no)) (by decide+kernel) ?_|(refine aC (fun _=>?_) (fun _=>?_)<;>try (exfalso;omega))|refine z1_SEx ?_|fail);all_goals try (conv=>whnf)
 refine aM [2] (BentNet_ok _ _ hL hp2 3 4 k n hG) rfl rfl ?_
 rintro _ _ ⟨⟨m,p3⟩,⟨hm,hp3⟩,rfl,rfl⟩
 dsimp only at hm hp3⊢
 (repeat' (conv=>whnf);first|(refine aC (fun _=>?_) (fun _=>?_)<;>try (exfalso;omega))|refine z1_SEx ?_|fail);all_goals try (conv=>whnf)
 have hM:=hm.nl
 have hmf2:=hm.fb
 have hp60:p.length≤60:=by omega
 clear hm hG hS hb0 h1 h2 h3 h5 hp1 hp2 hsz hmf
 refine LoopOb.mk (Y:=Nat×Nat) (st:=fun y=>⟨[(96,i64 y.1),(95, .agg [.psl 1 (strs n.nm), .psl 5 (lns n.ln), .psl 8 (fls n.fl), .psl 1 (strs m.nm), .psl 5 (lns m.ln), .psl 8 (fls m.fl), .psl 1 (strs raw.nm), .psl 5 (lns raw.ln), .psl 8 (fls raw.fl)]),(19, .psl 3 (pks p)),(17, .ptr 1 0),(11, .ptr 0 0),(16, .bl false),(2, .psl 3 (pks odd)),(4,i64 tk),(5,i64 pk),(6,i64 hk),(7,i64 lk)],[.box [.psl 1 (trs tr)],src (l.take 2000) y.2]⟩)
  (inv:=fun y=>y.1≤3∧y.2≤2000) (fun y=>3-y.1) (0,p3) [1,2] ⟨by simp,hp3⟩ (by(exact aL)) ?_
 clear hp3 p3 p2 p1 k
 rintro⟨i,k⟩ ⟨hi,hk0⟩
 dsimp only at hi hk0⊢
 (repeat' (conv=>whnf);first|refine z1_SEx ?_|fail);all_goals try (conv=>whnf)
 refine CondOb.mk (fun hlt=>?_) (fun hlt=>?_)
 ·have hi3:i<3:=by omega
  obtain⟨u,hu,he⟩:∃u,NL u∧(i=0∧u=n∨i=1∧u=m∨i=2∧u=raw):=by
   rcases(show i=0∨i=1∨i=2 by omega)with h|h|h
   ·exact⟨n,hn, .inl ⟨h,rfl⟩⟩
   ·exact⟨m,hM, .inr (.inl ⟨h,rfl⟩)⟩
   ·exact⟨raw,hraw, .inr (.inr ⟨h,rfl⟩)⟩
  (repeat' (conv=>whnf);first|refine z1_SEx ?_|fail);all_goals try (conv=>whnf)
  refine⟨i,rfl,hi3,need_mk (a:=ntv u) (by rcases he with⟨rfl,rfl⟩|⟨rfl,rfl⟩|⟨rfl,rfl⟩<;>rfl) ?_⟩
  clear he
  (repeat' (conv=>whnf);first|(refine aC (fun _=>?_) (fun _=>?_)<;>try (exfalso;omega))|refine z1_SEx ?_|fail);all_goals try (conv=>whnf)
  refine aM [1] (BentPk_ok _ k hL hk0 p hp60) rfl rfl ?_
  rintro _ _ ⟨⟨q,k1⟩,⟨hq,hk1⟩,rfl,rfl⟩
  dsimp only at hq hk1⊢
  (repeat' (conv=>whnf);first|(refine aC (fun _=>?_) (fun _=>?_)<;>try (exfalso;omega))|refine z1_SEx ?_|fail);all_goals try (conv=>whnf)
  refine LoopOb.mk (Y:=Nat×Nat) (st:=fun y=>⟨[(105,i64 y.1),(104, .agg [.psl 3 (pks p), .psl 3 (pks q), .psl 3 (pks odd)]),(21, .ptr 2 0),(96,i64 i),(95, .agg [.psl 1 (strs n.nm), .psl 5 (lns n.ln), .psl 8 (fls n.fl), .psl 1 (strs m.nm), .psl 5 (lns m.ln), .psl 8 (fls m.fl), .psl 1 (strs raw.nm), .psl 5 (lns raw.ln), .psl 8 (fls raw.fl)]),(19, .psl 3 (pks p)),(17, .ptr 1 0),(11, .ptr 0 0),(16, .bl false),(2, .psl 3 (pks odd)),(4,i64 tk),(5,i64 pk),(6,i64 hk),(7,i64 lk)],[.box [.psl 1 (trs tr)],src (l.take 2000) y.2,nbx u]⟩)
   (inv:=fun y=>y.1≤3∧y.2≤2000) (fun y=>3-y.1) (0,k1) [0,1,2] ⟨by simp,hk1⟩ (by(exact aL)) ?_
  clear hk1 hk0
  rintro⟨j,k⟩ ⟨hj,hk0⟩
  dsimp only at hj hk0⊢
  (repeat' (conv=>whnf);first|refine z1_SEx ?_|fail);all_goals try (conv=>whnf)
  refine CondOb.mk (fun hlt2=>?_) (fun hlt2=>?_)
  ·obtain⟨e,hE,he2⟩:∃e:List Pk,e.length≤1000∧(j=0∧e=p∨j=1∧e=q∨j=2∧e=odd):=by
    rcases(show j=0∨j=1∨j=2 by omega)with h|h|h
    ·exact⟨p,by omega, .inl ⟨h,rfl⟩⟩
    ·exact⟨q,by omega, .inr (.inl ⟨h,rfl⟩)⟩
    ·exact⟨odd,by omega, .inr (.inr ⟨h,rfl⟩)⟩
   (repeat' (conv=>whnf);first|refine z1_SEx ?_|fail);all_goals try (conv=>whnf)
   refine⟨j,rfl,(by omega),need_mk (a:= .psl 3 (pks e)) (by rcases he2 with⟨rfl,rfl⟩|⟨rfl,rfl⟩|⟨rfl,rfl⟩<;>rfl) ?_⟩
   clear he2
   have cS:=SChk_ok u hu e (by omega)
   have cR:=RChk_ok u hu e (by omega)
   have hsz:=sck_zero (n:=u) (p:=e)
   generalize sck u e=se at*
   (repeat' (conv=>whnf);first|(refine aC (fun _=>?_) (fun _=>?_)<;>try (exfalso;omega))|refine z1_SEx ?_|(refine aK [] cS ?_)|(refine aK [] cR ?_)|(refine aM [1] (N_ok _ k hL hk0 300 (by omega) (by omega)) rfl rfl ?_;rintro _ _ ⟨⟨t1,k1⟩,⟨_,_,hk1⟩,rfl,rfl⟩;dsimp only at hk1⊢)|fail);all_goals try (conv=>whnf)
   all_goals try (exfalso;first|exact noteq (by assumption)|exact noiff (by assumption))
   refine LoopOb.mk (Y:=Nat×Nat) (st:=fun y=>⟨[(119,i64 y.1),(118, .agg [i64 tk,i64 t1]),(23, .psl 3 (pks e)),(105,i64 j),(104, .agg [.psl 3 (pks p), .psl 3 (pks q), .psl 3 (pks odd)]),(21, .ptr 2 0),(96,i64 i),(95, .agg [.psl 1 (strs n.nm), .psl 5 (lns n.ln), .psl 8 (fls n.fl), .psl 1 (strs m.nm), .psl 5 (lns m.ln), .psl 8 (fls m.fl), .psl 1 (strs raw.nm), .psl 5 (lns raw.ln), .psl 8 (fls raw.fl)]),(19, .psl 3 (pks p)),(17, .ptr 1 0),(11, .ptr 0 0),(16, .bl false),(2, .psl 3 (pks odd)),(4,i64 tk),(5,i64 pk),(6,i64 hk),(7,i64 lk)],[.box [.psl 1 (trs tr)],src (l.take 2000) y.2,nbx u]⟩)
    (inv:=fun y=>y.1≤2∧y.2≤2000) (fun y=>2-y.1) (0,k1) [0,1,2] ⟨by simp,hk1⟩ (by(exact aL)) ?_
   clear hk1 hk0
   rintro⟨c,k⟩ ⟨hc,hk0⟩
   dsimp only at hc hk0⊢
   (repeat' (conv=>whnf);first|refine z1_SEx ?_|fail);all_goals try (conv=>whnf)
   refine CondOb.mk (fun hlt3=>?_) (fun hlt3=>?_)
   ·obtain⟨x,hx⟩:∃x:Int,(c=0∧x=tk)∨(c=1∧x=t1):=by
     rcases(show c=0∨c=1 by omega)with h|h
     ·exact⟨_, .inl ⟨h,rfl⟩⟩
     ·exact⟨_, .inr ⟨h,rfl⟩⟩
    (repeat' (conv=>whnf);first|refine z1_SEx ?_|fail);all_goals try (conv=>whnf)
    refine⟨c,rfl,(by omega),need_mk (a:=i64 x) (by rcases hx with⟨rfl,rfl⟩|⟨rfl,rfl⟩<;>rfl) ?_⟩
    clear hx
    have cA:=RunG_ok u hu e hE x
    have cB:=RRunG_ok u hu e hE x
    have hRS:=rnG_sh (n:=u) (p:=e) (k:=x)
    generalize rnG u e x=RR at*
    obtain⟨R,RE⟩:=RR
    dsimp only [rnV]at cA cB hRS
    have hRG:=hRS.g
    have cSm:=rSame_ok R R hRG.m hRG.m
    replace cSm:=cSm.mono fun r o h=>(by obtain⟨h1,b,h2,h3⟩:=h;exact⟨h1,by rw [h3,h2.2 rfl]⟩:o=[]∧r= .bl true)
    (repeat' (conv=>whnf);first|(refine aC (fun _=>?_) (fun _=>?_)<;>try (exfalso;omega))|refine z1_SEx ?_|(refine aK [] (cA) ?_)|(refine aK [] (cB) ?_)|(refine aK [] (cSm) ?_)|(refine aM [1] (bent35_ok _ k hL hk0 R hRS) rfl rfl ?_;rintro _ _ ⟨⟨R2,k1⟩,⟨hR2,hk1⟩,rfl,rfl⟩;dsimp only at hR2 hk1⊢)|fail);all_goals try (conv=>whnf)
    all_goals try (exfalso;first|exact noteq (by assumption)|exact noiff (by assumption))
    refine LoopOb.mk (Y:=Nat×Nat) (st:=fun y=>⟨[(151,i64 y.1),(150, .agg [.psl 1 (trs R), .psl 1 (trs R2), .psl 1 (trs tr)]),(25,i64 x),(119,i64 c),(118, .agg [i64 tk,i64 t1]),(23, .psl 3 (pks e)),(105,i64 j),(104, .agg [.psl 3 (pks p), .psl 3 (pks q), .psl 3 (pks odd)]),(21, .ptr 2 0),(96,i64 i),(95, .agg [.psl 1 (strs n.nm), .psl 5 (lns n.ln), .psl 8 (fls n.fl), .psl 1 (strs m.nm), .psl 5 (lns m.ln), .psl 8 (fls m.fl), .psl 1 (strs raw.nm), .psl 5 (lns raw.ln), .psl 8 (fls raw.fl)]),(19, .psl 3 (pks p)),(17, .ptr 1 0),(11, .ptr 0 0),(16, .bl false),(2, .psl 3 (pks odd)),(4,i64 tk),(5,i64 pk),(6,i64 hk),(7,i64 lk)],[.box [.psl 1 (trs tr)],src (l.take 2000) y.2,nbx u]⟩)
     (inv:=fun y=>y.1≤3∧y.2≤2000) (fun y=>3-y.1) (0,k1) [0,1,2] ⟨by simp,hk1⟩ (by(exact aL)) ?_
    clear hk1 hk0
    rintro⟨d,k⟩ ⟨hd,hk0⟩
    dsimp only at hd hk0⊢
    (repeat' (conv=>whnf);first|refine z1_SEx ?_|fail);all_goals try (conv=>whnf)
    refine CondOb.mk (fun hlt4=>?_) (fun hlt4=>?_)
    ·obtain⟨z,hz,he3⟩:∃z:List (List Int),TrG z∧(d=0∧z=R∨d=1∧z=R2∨d=2∧z=tr):=by
      rcases(show d=0∨d=1∨d=2 by omega)with h|h|h
      ·exact⟨R,hRG, .inl ⟨h,rfl⟩⟩
      ·exact⟨R2,hR2, .inr (.inl ⟨h,rfl⟩)⟩
      ·exact⟨tr,hmT, .inr (.inr ⟨h,rfl⟩)⟩
     (repeat' (conv=>whnf);first|refine z1_SEx ?_|fail);all_goals try (conv=>whnf)
     refine⟨d,rfl,(by omega),need_mk (a:= .agg [.psl 1 (trs z)]) (by rcases he3 with⟨rfl,rfl⟩|⟨rfl,rfl⟩|⟨rfl,rfl⟩<;>rfl) ?_⟩
     clear he3 cA cB cSm
     have cC:=ConsG_ok u hu e hE x z hz.m hz.b
     have cD:=RConsG_ok u hu e hE x z hz.m hz.b
     obtain⟨B,hB⟩:∃B:Bool,B=true↔CnP u e z x:=by
      by_cases h:CnP u e z x
      ·exact⟨true,fun _=>h,fun _=>rfl⟩
      ·exact⟨false,fun c=>(by cases c),fun c=>absurd c h⟩
     replace cC:=cC.mono fun r o h=>(by obtain⟨h1,b,h2,h3⟩:=h;exact⟨h1,by rw [h3,Bool.eq_iff_iff.2 (h2.trans hB.symm)]⟩:o=[]∧r= .bl B)
     replace cD:=cD.mono fun r o h=>(by obtain⟨h1,b,h2,h3⟩:=h;exact⟨h1,by rw [h3,Bool.eq_iff_iff.2 (h2.trans hB.symm)]⟩:o=[]∧r= .bl B)
     clear hB
     (repeat' (conv=>whnf);first|(refine aC (fun _=>?_) (fun _=>?_)<;>try (exfalso;omega))|refine z1_SEx ?_|(refine aK [] (cC) ?_)|(refine aK [] (cD) ?_)|(refine aM [1] (N_ok _ k hL hk0 10 (by omega) (by omega)) rfl rfl ?_;rintro _ _ ⟨⟨v1,k1⟩,⟨_,_,hk1⟩,rfl,rfl⟩;dsimp only at hk1⊢)|(refine aM [1] (N_ok _ k1 hL hk1 3 (by omega) (by omega)) rfl rfl ?_;rintro _ _ ⟨⟨v2,k2⟩,⟨_,_,hk2⟩,rfl,rfl⟩;dsimp only at hk2⊢)|(refine aM [1] (N_ok _ k2 hL hk2 3 (by omega) (by omega)) rfl rfl ?_;rintro _ _ ⟨⟨v3,k3⟩,⟨_,_,hk3⟩,rfl,rfl⟩;dsimp only at hk3⊢)|fail);all_goals try (conv=>whnf)
     all_goals try (exfalso;first|exact noteq (by assumption)|exact noiff (by assumption))
     refine LoopOb.mk (Y:=Nat) (st:=fun y=>⟨[(177,i64 y),(176, .agg [i64 pk,i64 hk,i64 lk,i64 v1,i64 v2,i64 v3]),(31, .ptr 3 0),(151,i64 d),(150, .agg [.psl 1 (trs R), .psl 1 (trs R2), .psl 1 (trs tr)]),(25,i64 x),(119,i64 c),(118, .agg [i64 tk,i64 t1]),(23, .psl 3 (pks e)),(105,i64 j),(104, .agg [.psl 3 (pks p), .psl 3 (pks q), .psl 3 (pks odd)]),(21, .ptr 2 0),(96,i64 i),(95, .agg [.psl 1 (strs n.nm), .psl 5 (lns n.ln), .psl 8 (fls n.fl), .psl 1 (strs m.nm), .psl 5 (lns m.ln), .psl 8 (fls m.fl), .psl 1 (strs raw.nm), .psl 5 (lns raw.ln), .psl 8 (fls raw.fl)]),(19, .psl 3 (pks p)),(17, .ptr 1 0),(11, .ptr 0 0),(16, .bl false),(2, .psl 3 (pks odd)),(4,i64 tk),(5,i64 pk),(6,i64 hk),(7,i64 lk)],[.box [.psl 1 (trs tr)],src (l.take 2000) k3,nbx u, .box [.psl 1 (trs z)]]⟩)
      (inv:=fun y=>y≤2) (fun y=>2-y) 0 [0,1,2,3] (by simp) (by(exact aL)) ?_
     rintro w hw
     (repeat' (conv=>whnf);first|refine z1_SEx ?_|fail);all_goals try (conv=>whnf)
     refine CondOb.mk (fun hlt5=>?_) (fun hlt5=>?_)
     ·obtain⟨a1,a2,a3,ha⟩:∃a1 a2 a3:Int,(w=0∧a1=pk∧a2=hk∧a3=lk)∨(w=1∧a1=v1∧a2=v2∧a3=v3):=by
       rcases(show w=0∨w=1 by omega)with h|h
       ·exact⟨_,_,_, .inl ⟨h,rfl,rfl,rfl⟩⟩
       ·exact⟨_,_,_, .inr ⟨h,rfl,rfl,rfl⟩⟩
      (repeat' (conv=>whnf);first|refine z1_SEx ?_|fail);all_goals try (conv=>whnf)
      refine⟨w,rfl,(by omega),need_mk (a:= .agg [i64 a1,i64 a2,i64 a3]) (by rcases ha with⟨rfl,rfl,rfl,rfl⟩|⟨rfl,rfl,rfl,rfl⟩<;>rfl) ?_⟩
      clear ha
      have cE:=Arr_ok u hu e (by omega) z hz.m a1 a2
      have cG:=RArr_ok u hu e (by omega) z hz.m a1 a2
      rw [arrT_eq]at cE cG
      generalize (arO u e (dR z) a1 a2).getD 0=o1 at*
      generalize (arO u e (dR z) a1 a2).isSome =o2 at*
      by_cases hse:se=0
      ·have hK:=hsz.1 hse
       have cP:=PQu_ok u hu e hK.l hK.rt z hz.m a3
       have cQ:=RQu_ok u hu e hK.l hK.rt z hz.m a3
       have hq60:=quL_len (n:=u) (p:=e) (D:=dR z) (l:=a3) e.length
       have hpk:=pkq_len (toF u e) (quL u e (dR z) a3 e.length)
       have hix:=ixs_len (quL u e (dR z) a3 e.length)
       replace cP:=cP.mono fun r o (h:QuR _ _ r o)=>(⟨h.2,h.1⟩:o=[.vec 3 (pks (pkq (toF u e) (quL u e (dR z) a3 e.length))), .vec 1 (ints (ixs (quL u e (dR z) a3 e.length)))]∧r= .tup [.vec 0, .vec 1])
       replace cQ:=cQ.mono fun r o (h:QuR _ _ r o)=>(⟨h.2,h.1⟩:o=[.vec 3 (pks (pkq (toF u e) (quL u e (dR z) a3 e.length))), .vec 1 (ints (ixs (quL u e (dR z) a3 e.length)))]∧r= .tup [.vec 0, .vec 1])
       generalize pkq (toF u e) (quL u e (dR z) a3 e.length)=P at*
       generalize ixs (quL u e (dR z) a3 e.length)=Q at*
       have cS2:=rSameP_ok P (by omega)
       have cI:=kInts_ok Q Q (by omega)
       (repeat' (conv=>whnf);first|(refine aC (fun _=>?_) (fun _=>?_)<;>try (exfalso;omega))|refine z2_SEx ?_|refine⟨0,rfl,by omega,?_⟩|refine⟨1,rfl,by omega,?_⟩|refine⟨2,rfl,by omega,?_⟩|(refine Gh.mk [] ?_;(conv=>whnf);refine aK [] cE ?_)|(refine Gh.mk [] ?_;(conv=>whnf);refine aK [] cG ?_)|(refine Gh.mk [] ?_;(conv=>whnf);refine aK [] cR ?_)|(refine Gh.mk [] ?_;(conv=>whnf);refine aK [] cP ?_)|(refine Gh.mk [] ?_;(conv=>whnf);refine aK [] cQ ?_)|fail);all_goals try (conv=>whnf)
       all_goals try (exfalso;first|exact noteq (by assumption)|exact noiff (by assumption))
       refine .mk [.fz 5, .fz 6, .fz 7, .fz 8] ?_
       (repeat' (conv=>whnf);first|(refine aC (fun _=>?_) (fun _=>?_)<;>try (exfalso;omega))|refine z1_SEx ?_|(refine aK [] (cS2) ?_)|(refine aK [] (cI) ?_)|fail);all_goals try (conv=>whnf)
       all_goals try (exfalso;first|exact noteq (by assumption)|exact noiff (by assumption))
       all_goals exact⟨w+1,[0,1,2,3],by omega,by omega,by(exact aL)⟩
      ·(repeat' (conv=>whnf);first|(refine aC (fun _=>?_) (fun _=>?_)<;>try (exfalso;omega))|refine z1_SEx ?_|refine⟨0,rfl,by omega,?_⟩|refine⟨1,rfl,by omega,?_⟩|refine⟨2,rfl,by omega,?_⟩|(refine aK [] (cE) ?_)|(refine aK [] (cG) ?_)|(refine aK [] (cR) ?_)|fail);all_goals try (conv=>whnf)
       all_goals try (exfalso;first|exact noteq (by assumption)|exact noiff (by assumption))
       exact⟨w+1,[0,1,2,3],by omega,by omega,by(exact aL)⟩
     ·(repeat' (conv=>whnf);first|(refine aC (fun _=>?_) (fun _=>?_)<;>try (exfalso;omega))|refine z1_SEx ?_|fail);all_goals try (conv=>whnf)
      exact⟨(d+1,k3),[0,1,2],⟨by dsimp only;omega,hk3⟩,by dsimp only;omega,by(exact aL)⟩
    ·(repeat' (conv=>whnf);first|(refine aC (fun _=>?_) (fun _=>?_)<;>try (exfalso;omega))|refine z1_SEx ?_|fail);all_goals try (conv=>whnf)
     exact⟨(c+1,k),[0,1,2],⟨by dsimp only;omega,hk0⟩,by dsimp only;omega,by(exact aL)⟩
   ·(repeat' (conv=>whnf);first|(refine aC (fun _=>?_) (fun _=>?_)<;>try (exfalso;omega))|refine z1_SEx ?_|fail);all_goals try (conv=>whnf)
    exact⟨(j+1,k),[0,1,2],⟨by dsimp only;omega,hk0⟩,by dsimp only;omega,by(exact aL)⟩
  ·(repeat' (conv=>whnf);first|(refine aC (fun _=>?_) (fun _=>?_)<;>try (exfalso;omega))|refine z1_SEx ?_|fail);all_goals try (conv=>whnf)
   exact⟨(i+1,k),[0,1],⟨by dsimp only;omega,hk0⟩,by dsimp only;omega,by(exact aL)⟩
 ·(repeat' (conv=>whnf);first|(refine aC (fun _=>?_) (fun _=>?_)<;>try (exfalso;omega))|refine z1_SEx ?_|(refine aK [] (sane_ok) ?_)|fail);all_goals try (conv=>whnf)
  all_goals rfl
end Go.Proofs.YtaomhdljcdadaaaGreat
