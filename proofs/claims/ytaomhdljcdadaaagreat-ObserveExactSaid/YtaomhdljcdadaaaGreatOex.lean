/- Lemmas of this seat. Conditions: as stated. -/
import Derived.Test.YtaomhdljcdadaaaGreatC2
import Derived.Test.YtaomhdljcdadaaaGreatO14
import Derived.Test.YtaomhdljcdadaaaGreatO13
import Derived.Test.YtaomhdljcdadaaaGreatY11
import Derived.Test.YtaomhdljcdadaaaGreatCn5
import Derived.Test.YtaomhdljcdadaaaGreatX8
set_option linter.unusedVariables false
set_option linter.unusedSimpArgs false
set_option maxHeartbeats 2000000
set_option maxRecDepth 4000
namespace Go.Proofs.YtaomhdljcdadaaaGreat
open Go.Sx Go.Pk Go.Mc Go.Np Go.Tp Go.Cv
theorem noconj3 {a b c:Int} (h:¬conj ([a=a]++([b=b]++([c=c]++[])))):False:=h (by simp [conj])
theorem z2_Oex {G H:Prop} (k:H) (h:H→G:=by first|exact fun r=>aS r|exact fun r=>aG r|exact fun r=>aD r|exact fun r=>aP_T1 r|exact fun r=>aI r|exact fun r=>aJ r|exact fun r=>aW (.qs [0,1,2,4,6] (.l 3 [4,0] (.qs [5] .nil) .no)) r|exact fun r=>aW (.qs [0,1,3,4] (.l 2 [3] (.l 5 [] (.qs [6] .nil) .no) .no)) r|exact fun r=>aW (.qs [0,1,2,3,4,5,6,7,8,9,10,11,12,13,14,15,17,18,19,20,21,22,23] (.l 16 [22,20,17] (.l 24 [] (.qs [25,26,27,28,29,30,31,32,33,34,35,36,38,39,40,41,42,43,44,45,46] (.l 37 [46,43,40,38] (.l 47 [] (.qs [48,49] .nil) .no) .no)) .no) .no)) r|exact fun r=>aW (.qs [0,1,2,3,5,6,7,8] (.l 4 [8,5] (.l 9 [] (.qs [10,11] .nil) .no) .no)) r|exact fun r=>aW (.qs [0,1,2,3,4,5,6,7,8] .nil) r):G:=h k
theorem z1_Oex {G H:Prop} (k:H) (h:H→G:=by first|exact fun r=>aS r|exact fun r=>aG r|exact fun r=>aD r|exact fun r=>aH r|exact fun r=>aP_T1 r|exact fun r=>aI r|exact fun r=>aJ r|exact fun r=>aW (.qs [0,1,2,4,6] (.l 3 [4,0] (.qs [5] .nil) .no)) r|exact fun r=>aW (.qs [0,1,3,4] (.l 2 [3] (.l 5 [] (.qs [6] .nil) .no) .no)) r|exact fun r=>aW (.qs [0,1,2,3,4,5,6,7,8,9,10,11,12,13,14,15,17,18,19,20,21,22,23] (.l 16 [22,20,17] (.l 24 [] (.qs [25,26,27,28,29,30,31,32,33,34,35,36,38,39,40,41,42,43,44,45,46] (.l 37 [46,43,40,38] (.l 47 [] (.qs [48,49] .nil) .no) .no)) .no) .no)) r|exact fun r=>aW (.qs [0,1,2,3,5,6,7,8] (.l 4 [8,5] (.l 9 [] (.qs [10,11] .nil) .no) .no)) r|exact fun r=>aW (.qs [0,1,2,3,4,5,6,7,8] .nil) r):G:=h k
theorem oExact_ok (l:List Int) (hl:l.length≤9223372036854775807) (raw:Nt) (hraw:NL raw) (odd:List Pk) (hodd:odd.length≤9223372036854775807) (tr:List (List Int)) (htr:tr.length≤9223372036854775807) (htr2:∀i,(tr.getD i []).length ≤9223372036854775807) (dd:List (List Int)) (hdd:DL dd) (pk fk tk:Int):
  Ctr Tryz.prog 5 [.psl 1 (ints l),ntv raw, .psl 3 (pks odd), .agg [.psl 1 (trs tr)], .psl 1 (dls dd),i64 pk,i64 fk,i64 tk] [] (fun r o=>r= .bl true):=by
 refine fI 0 Tryz.func5 ?_
 have hil:=ints_len l
 have h1:=stl raw.nm
 have h2:=lnl raw.ln
 have h3:=fll raw.fl
 have h4:=pks_len odd
 have h5:=trs_len tr
 have h6:=dls_len dd
 have h7:=hdd.l
 have cW:=wild36_ok tr htr htr2
 (repeat' (conv=>whnf);first|refine aC ?_ ?_<;>intro _|refine z1_Oex ?_|(refine aK [] (sane36_ok) ?_)|(refine aM [] cW rfl rfl ?_;rintro _ _ ⟨rfl,b,hb,rfl⟩;cases b)|fail);all_goals try (conv=>whnf)
 all_goals try rfl
 have hb0:VB tr:=hb rfl
 clear hb cW
 have hmT:TrG tr:=⟨⟨htr,htr2,fun i j=>by
  have:=hb0 i j
  by_cases hj:j<(tr.getD i []).length
  ·rw [show(tr.getD i []).getD j 0=dR tr i j from getD_dflt hj];omega
  ·rw [List.getD_eq_getElem?_getD,List.getElem?_eq_none (by omega)];simp⟩,hb0⟩
 have hL:(l.take 2000).length ≤2000:=by rw [List.length_take];omega
 refine aK [] (New_ok l hl) ?_
 (repeat' (conv=>whnf);first|refine aC ?_ ?_<;>intro<;>try omega|refine z1_Oex ?_|fail);all_goals try (conv=>whnf)
 refine aM [2] (Net_ok _ 0 hL (by omega) 3 4 (by omega) (by omega)) rfl rfl ?_
 rintro _ _ ⟨⟨n,k,p1⟩,⟨hG,hp1⟩,rfl,rfl⟩
 dsimp only at hG hp1⊢
 have hn:=hG.nl
 have hmf:=hG.mf
 have hsz:=hG.szs35
 (repeat' (conv=>whnf);first|refine aC ?_ ?_<;>intro<;>try omega|refine z1_Oex ?_|fail);all_goals try (conv=>whnf)
 refine aM [2] (Sends_ok _ p1 hL hp1 n hn (by omega) hsz 10 (by omega)) rfl rfl ?_
 rintro _ _ ⟨⟨p,p2⟩,⟨hS,hp14,hp2⟩,rfl,rfl⟩
 dsimp only at hS hp14 hp2⊢
 have hpl:=pks_len p
 (repeat' (conv=>whnf);first|refine aC ?_ ?_<;>intro<;>try omega|refine z2_Oex ?_|fail);all_goals try (conv=>whnf)
 have cR:=RRunG_ok n hn p (by omega) 200
 have hRS:=rnG_sh (n:=n) (p:=p) (k:=200)
 generalize rnG n p 200=RR at*
 obtain⟨R,RE⟩:=RR
 dsimp only [rnV]at cR hRS
 have hRG:=hRS.g
 refine Gh.mk [.fz 4] ?_
 (conv=>whnf)
 refine aK [] cR ?_
 (repeat' (conv=>whnf);first|refine aC ?_ ?_<;>intro<;>try omega|refine z1_Oex ?_|fail);all_goals try (conv=>whnf)
 have g:=hG.g
 have g2:=g.ll
 have gk:=g.k1
 refine aM [2] (Delays_ok _ p2 hL hp2 n (by omega) (fun i hi=>by
  have:=(g.le _ (Go.Np.getD_in (d:=ln0) hi)).2;omega)) rfl rfl ?_
 rintro _ _ ⟨⟨d,p3⟩,⟨hD,hp3⟩,rfl,rfl⟩
 dsimp only at hD hp3⊢
 have hDS:DS d:=⟨by have:=hD.l;omega,fun r hr=>by
  obtain⟨i,hi,rfl⟩:=List.getElem_of_mem hr
  have h1:=hD.r i (by have:=hD.l;omega)
  have h2:=(g.le _ (Go.Np.getD_in (d:=ln0) (show i<n.ln.length by have:=hD.l;omega))).2
  rw [List.getD_eq_getElem?_getD,List.getElem?_eq_getElem hi]at h1
  dsimp only [Option.getD_some]at h1
  omega,fun r hr x hx=>by
  obtain⟨i,hi,rfl⟩:=List.getElem_of_mem hr
  have h1:=hD.b i (by have:=hD.l;omega) x (by rw [List.getD_eq_getElem?_getD,List.getElem?_eq_getElem hi];exact hx)
  omega⟩
 have hdl:=hDS.dl
 (repeat' (conv=>whnf);first|refine aC ?_ ?_<;>intro<;>try omega|refine z1_Oex ?_|fail);all_goals try (conv=>whnf)
 refine aM [2] (BentNet_ok _ _ hL hp3 3 4 k n hG) rfl rfl ?_
 rintro _ _ ⟨⟨m,p4⟩,⟨hm,hp4⟩,rfl,rfl⟩
 dsimp only at hm hp4⊢
 (repeat' (conv=>whnf);first|refine aC ?_ ?_<;>intro<;>try omega|refine z1_Oex ?_|fail);all_goals try (conv=>whnf)
 have hM:=hm.nl
 have hmf2:=hm.fb
 have hp60:p.length≤60:=by omega
 clear hm hG hS hb0 h1 h2 h3 h5 hp1 hp2 hp3 hsz hmf hD g g2 gk
 refine LoopOb.mk (Y:=Nat×Nat) (st:=fun y=>⟨[(111,i64 y.1),(110, .agg [.psl 1 (strs n.nm), .psl 5 (lns n.ln), .psl 8 (fls n.fl), .psl 1 (strs m.nm), .psl 5 (lns m.ln), .psl 8 (fls m.fl), .psl 1 (strs raw.nm), .psl 5 (lns raw.ln), .psl 8 (fls raw.fl)]),(22, .psl 1 (dls d)),(20, .ptr 2 0),(19, .psl 3 (pks p)),(17, .ptr 1 0),(11, .ptr 0 0),(16, .bl false),(2, .psl 3 (pks odd)),(4, .psl 1 (dls dd)),(5,i64 pk),(6,i64 fk),(7,i64 tk)],[.box [.psl 1 (trs tr)],src (l.take 2000) y.2, .box [.psl 1 (trs R)]]⟩)
  (inv:=fun y=>y.1≤3∧y.2≤2000) (fun y=>3-y.1) (0,p4) [1,2,5] ⟨by simp,hp4⟩ (by(exact aL)) ?_
 clear hp4 p4 p3 p2 p1 k cR
 rintro⟨i,k⟩ ⟨hi,hk0⟩
 dsimp only at hi hk0⊢
 (repeat' (conv=>whnf);first|refine z1_Oex ?_|fail);all_goals try (conv=>whnf)
 refine CondOb.mk (fun hlt=>?_) (fun hlt=>?_)
 ·have hi3:i<3:=by omega
  obtain⟨u,hu,he⟩:∃u,NL u∧(i=0∧u=n∨i=1∧u=m∨i=2∧u=raw):=by
   rcases(show i=0∨i=1∨i=2 by omega)with h|h|h
   ·exact⟨n,hn, .inl ⟨h,rfl⟩⟩
   ·exact⟨m,hM, .inr (.inl ⟨h,rfl⟩)⟩
   ·exact⟨raw,hraw, .inr (.inr ⟨h,rfl⟩)⟩
  (repeat' (conv=>whnf);first|refine z1_Oex ?_|fail);all_goals try (conv=>whnf)
  refine⟨i,rfl,hi3,need_mk (a:=ntv u) (by rcases he with⟨rfl,rfl⟩|⟨rfl,rfl⟩|⟨rfl,rfl⟩<;>rfl) ?_⟩
  clear he
  (repeat' (conv=>whnf);first|refine aC ?_ ?_<;>intro<;>try omega|refine z1_Oex ?_|fail);all_goals try (conv=>whnf)
  refine aM [1] (BentPk_ok _ k hL hk0 p hp60) rfl rfl ?_
  rintro _ _ ⟨⟨q,k1⟩,⟨hq,hk1⟩,rfl,rfl⟩
  dsimp only at hq hk1⊢
  (repeat' (conv=>whnf);first|refine aC ?_ ?_<;>intro<;>try omega|refine z1_Oex ?_|fail);all_goals try (conv=>whnf)
  refine LoopOb.mk (Y:=Nat×Nat) (st:=fun y=>⟨[(120,i64 y.1),(119, .agg [.psl 3 (pks p), .psl 3 (pks q), .psl 3 (pks odd)]),(24, .ptr 3 0),(111,i64 i),(110, .agg [.psl 1 (strs n.nm), .psl 5 (lns n.ln), .psl 8 (fls n.fl), .psl 1 (strs m.nm), .psl 5 (lns m.ln), .psl 8 (fls m.fl), .psl 1 (strs raw.nm), .psl 5 (lns raw.ln), .psl 8 (fls raw.fl)]),(22, .psl 1 (dls d)),(20, .ptr 2 0),(19, .psl 3 (pks p)),(17, .ptr 1 0),(11, .ptr 0 0),(16, .bl false),(2, .psl 3 (pks odd)),(4, .psl 1 (dls dd)),(5,i64 pk),(6,i64 fk),(7,i64 tk)],[.box [.psl 1 (trs tr)],src (l.take 2000) y.2, .box [.psl 1 (trs R)],nbx u]⟩)
   (inv:=fun y=>y.1≤3∧y.2≤2000) (fun y=>3-y.1) (0,k1) [0,1,2,3] ⟨by simp,hk1⟩ (by(exact aL)) ?_
  clear hk1 hk0
  rintro⟨j,k⟩ ⟨hj,hk0⟩
  dsimp only at hj hk0⊢
  (repeat' (conv=>whnf);first|refine z1_Oex ?_|fail);all_goals try (conv=>whnf)
  refine CondOb.mk (fun hlt2=>?_) (fun hlt2=>?_)
  ·obtain⟨e,hE,he2⟩:∃e:List Pk,e.length≤1000∧(j=0∧e=p∨j=1∧e=q∨j=2∧e=odd):=by
    rcases(show j=0∨j=1∨j=2 by omega)with h|h|h
    ·exact⟨p,by omega, .inl ⟨h,rfl⟩⟩
    ·exact⟨q,by omega, .inr (.inl ⟨h,rfl⟩)⟩
    ·exact⟨odd,by omega, .inr (.inr ⟨h,rfl⟩)⟩
   (repeat' (conv=>whnf);first|refine z1_Oex ?_|fail);all_goals try (conv=>whnf)
   refine⟨j,rfl,(by omega),need_mk (a:= .psl 3 (pks e)) (by rcases he2 with⟨rfl,rfl⟩|⟨rfl,rfl⟩|⟨rfl,rfl⟩<;>rfl) ?_⟩
   clear he2
   obtain⟨B,hB⟩:∃B:Bool,B=true↔KpAll u e:=by
    by_cases h:KpAll u e
    ·exact⟨true,fun _=>h,fun _=>rfl⟩
    ·exact⟨false,fun c=>(by cases c),fun c=>absurd c h⟩
   have cK1:=OKeeG_ok u hu e hE
   have cK2:=RKeeG_ok u hu e hE
   replace cK1:=cK1.mono fun r o h=>(by obtain⟨h1,b,h2,h3⟩:=h;exact⟨h1,by rw [h3,Bool.eq_iff_iff.2 (h2.trans hB.symm)]⟩:o=[]∧r= .bl B)
   replace cK2:=cK2.mono fun r o h=>(by obtain⟨h1,b,h2,h3⟩:=h;exact⟨h1,by rw [h3,Bool.eq_iff_iff.2 (h2.trans hB.symm)]⟩:o=[]∧r= .bl B)
   clear hB
   have cC:=RChk_ok u hu e (by omega)
   have hsz:=sck_zero (n:=u) (p:=e)
   generalize sck u e=se at*
   by_cases hse:se=0
   ·have hK:=hsz.1 hse
    subst hse
    clear hsz
    (repeat' (conv=>whnf);first|refine aC ?_ ?_<;>intro<;>try omega|refine z1_Oex ?_|(refine aK [] (cK1) ?_)|(refine aK [] (cK2) ?_)|(refine aK [] (cC) ?_)|fail);all_goals try (conv=>whnf)
    all_goals try (exfalso;first|exact noteq (by assumption)|exact noiff (by assumption))
    clear cK1 cK2 cC
    refine LoopOb.mk (Y:=Nat×Nat) (st:=fun y=>⟨[(137,i64 y.1),(136, .agg [.psl 1 (trs R), .psl 1 (trs tr)]),(26, .psl 3 (pks e)),(120,i64 j),(119, .agg [.psl 3 (pks p), .psl 3 (pks q), .psl 3 (pks odd)]),(24, .ptr 3 0),(111,i64 i),(110, .agg [.psl 1 (strs n.nm), .psl 5 (lns n.ln), .psl 8 (fls n.fl), .psl 1 (strs m.nm), .psl 5 (lns m.ln), .psl 8 (fls m.fl), .psl 1 (strs raw.nm), .psl 5 (lns raw.ln), .psl 8 (fls raw.fl)]),(22, .psl 1 (dls d)),(20, .ptr 2 0),(19, .psl 3 (pks p)),(17, .ptr 1 0),(11, .ptr 0 0),(16, .bl false),(2, .psl 3 (pks odd)),(4, .psl 1 (dls dd)),(5,i64 pk),(6,i64 fk),(7,i64 tk)],[.box [.psl 1 (trs tr)],src (l.take 2000) y.2, .box [.psl 1 (trs R)],nbx u]⟩)
     (inv:=fun y=>y.1≤2∧y.2≤2000) (fun y=>2-y.1) (0,k) [0,1,2,3] ⟨by simp,hk0⟩ (by(exact aL)) ?_
    clear hk0
    rintro⟨c,k⟩ ⟨hc,hk0⟩
    dsimp only at hc hk0⊢
    (repeat' (conv=>whnf);first|refine z1_Oex ?_|fail);all_goals try (conv=>whnf)
    refine CondOb.mk (fun hlt3=>?_) (fun hlt3=>?_)
    ·obtain⟨z,hz,he3⟩:∃z:List (List Int),TrG z∧(c=0∧z=R∨c=1∧z=tr):=by
      rcases(show c=0∨c=1 by omega)with h|h
      ·exact⟨R,hRG, .inl ⟨h,rfl⟩⟩
      ·exact⟨tr,hmT, .inr ⟨h,rfl⟩⟩
     (repeat' (conv=>whnf);first|refine z1_Oex ?_|fail);all_goals try (conv=>whnf)
     refine⟨c,rfl,(by omega),need_mk (a:= .agg [.psl 1 (trs z)]) (by rcases he3 with⟨rfl,rfl⟩|⟨rfl,rfl⟩<;>rfl) ?_⟩
     clear he3
     (repeat' (conv=>whnf);first|refine aC ?_ ?_<;>intro<;>try omega|refine z1_Oex ?_|(refine aM [1] (N_ok _ k hL hk0 10 (by omega) (by omega)) rfl rfl ?_;rintro _ _ ⟨⟨v1,k1⟩,⟨_,_,hk1⟩,rfl,rfl⟩;dsimp only at hk1⊢)|(refine aM [1] (N_ok _ k1 hL hk1 4 (by omega) (by omega)) rfl rfl ?_;rintro _ _ ⟨⟨v2,k2⟩,⟨_,_,hk2⟩,rfl,rfl⟩;dsimp only at hk2⊢)|(refine aM [1] (N_ok _ k2 hL hk2 30 (by omega) (by omega)) rfl rfl ?_;rintro _ _ ⟨⟨v3,k3⟩,⟨_,_,hk3⟩,rfl,rfl⟩;dsimp only at hk3⊢)|fail);all_goals try (conv=>whnf)
     clear hk0 hk1 hk2
     refine LoopOb.mk (Y:=Nat) (st:=fun y=>⟨[(152,i64 y),(151, .agg [i64 pk,i64 fk,i64 tk,i64 v1,i64 v2,i64 v3]),(28, .ptr 4 0),(137,i64 c),(136, .agg [.psl 1 (trs R), .psl 1 (trs tr)]),(26, .psl 3 (pks e)),(120,i64 j),(119, .agg [.psl 3 (pks p), .psl 3 (pks q), .psl 3 (pks odd)]),(24, .ptr 3 0),(111,i64 i),(110, .agg [.psl 1 (strs n.nm), .psl 5 (lns n.ln), .psl 8 (fls n.fl), .psl 1 (strs m.nm), .psl 5 (lns m.ln), .psl 8 (fls m.fl), .psl 1 (strs raw.nm), .psl 5 (lns raw.ln), .psl 8 (fls raw.fl)]),(22, .psl 1 (dls d)),(20, .ptr 2 0),(19, .psl 3 (pks p)),(17, .ptr 1 0),(11, .ptr 0 0),(16, .bl false),(2, .psl 3 (pks odd)),(4, .psl 1 (dls dd)),(5,i64 pk),(6,i64 fk),(7,i64 tk)],[.box [.psl 1 (trs tr)],src (l.take 2000) k3, .box [.psl 1 (trs R)],nbx u, .box [.psl 1 (trs z)]]⟩)
      (inv:=fun y=>y≤2) (fun y=>2-y) 0 [0,1,2,3,4] (by simp) (by(exact aL)) ?_
     rintro w hw
     (repeat' (conv=>whnf);first|refine z1_Oex ?_|fail);all_goals try (conv=>whnf)
     refine CondOb.mk (fun hlt5=>?_) (fun hlt5=>?_)
     ·obtain⟨a1,a2,a3,ha⟩:∃a1 a2 a3:Int,(w=0∧a1=pk∧a2=fk∧a3=tk)∨(w=1∧a1=v1∧a2=v2∧a3=v3):=by
       rcases(show w=0∨w=1 by omega)with h|h
       ·exact⟨_,_,_, .inl ⟨h,rfl,rfl,rfl⟩⟩
       ·exact⟨_,_,_, .inr ⟨h,rfl,rfl,rfl⟩⟩
      (repeat' (conv=>whnf);first|refine z1_Oex ?_|fail);all_goals try (conv=>whnf)
      refine⟨w,rfl,(by omega),need_mk (a:= .agg [i64 a1,i64 a2,i64 a3]) (by rcases ha with⟨rfl,rfl,rfl,rfl⟩|⟨rfl,rfl,rfl,rfl⟩<;>rfl) ?_⟩
      clear ha
      have cE1:=OEnd_ok u hu e hK z hz.m a1
      have cE2:=REnd_ok u hu e hK z hz.m a1
      rw [arrT_eq]at cE1 cE2
      have cW1:=OWor_ok u hu e hK z hz.m a2
      have cW2:=RWor_ok u hu e hK z hz.m a2
      generalize (enO u e (dR z) a1).getD 0=o1 at*
      generalize (enO u e (dR z) a1).isSome =o2 at*
      generalize worF u e (dR z) a2 e.length=WF at*
      obtain⟨w1,w2,w3⟩:=WF
      dsimp only [wrV]at cW1 cW2
      (repeat' (conv=>whnf);first|refine aC ?_ ?_<;>intro<;>try omega|refine z1_Oex ?_|refine⟨0,rfl,by omega,?_⟩|refine⟨1,rfl,by omega,?_⟩|refine⟨2,rfl,by omega,?_⟩|(refine aK [] (cE1) ?_)|(refine aK [] (cE2) ?_)|(refine aK [] (cW1) ?_)|(refine aK [] (cW2) ?_)|fail);all_goals try (conv=>whnf)
      all_goals try (exfalso;first|exact noteq (by assumption)|exact noiff (by assumption))
      clear cE1 cE2 cW1 cW2
      refine LoopOb.mk (Y:=Nat) (st:=fun y=>⟨[(41,i64 ((y:Int)-1)),(30, .ptr 5 0),(152,i64 w),(151, .agg [i64 pk,i64 fk,i64 tk,i64 v1,i64 v2,i64 v3]),(28, .ptr 4 0),(137,i64 c),(136, .agg [.psl 1 (trs R), .psl 1 (trs tr)]),(26, .psl 3 (pks e)),(120,i64 j),(119, .agg [.psl 3 (pks p), .psl 3 (pks q), .psl 3 (pks odd)]),(24, .ptr 3 0),(111,i64 i),(110, .agg [.psl 1 (strs n.nm), .psl 5 (lns n.ln), .psl 8 (fls n.fl), .psl 1 (strs m.nm), .psl 5 (lns m.ln), .psl 8 (fls m.fl), .psl 1 (strs raw.nm), .psl 5 (lns raw.ln), .psl 8 (fls raw.fl)]),(22, .psl 1 (dls d)),(20, .ptr 2 0),(19, .psl 3 (pks p)),(17, .ptr 1 0),(11, .ptr 0 0),(16, .bl false),(2, .psl 3 (pks odd)),(4, .psl 1 (dls dd)),(5,i64 pk),(6,i64 fk),(7,i64 tk)],[.box [.psl 1 (trs tr)],src (l.take 2000) k3, .box [.psl 1 (trs R)],nbx u, .box [.psl 1 (trs z)], .box [i64 a1,i64 a2,i64 a3]]⟩)
       (inv:=fun y=>y≤4) (fun y=>4-y) 0 [0,1,2,3,4,5] (by simp) (by(exact aL)) ?_
      rintro y hy
      by_cases hy4:y<4
      ·have hT:∀i,i<e.length→-1000000≤(e.getD i pk0).t ∧(e.getD i pk0).t ≤1000000:=fun i hi=>by have:=hK.fl hi;omega
       have cD1:=ODel_ok u hu e (by omega) hT z hz.m a1 ((y:Int)-1)
       have cD2:=RDel_ok u hu e (by omega) hT z hz.m a1 ((y:Int)-1)
       rw [arrT_eq]at cD1 cD2
       have cA1:=OKaA_ok u hu d hdl e hK z hz.m hz.b a2 ((y:Int)-1)
       have cA2:=RKaA_ok u hu d hdl e hK z hz.m hz.b a2 ((y:Int)-1)
       have cI1:=OWai_ok u hu e hK z hz.m ((y:Int)-1) (a1.tmod 3) a3
       have cI2:=RWai_ok u hu e hK z hz.m ((y:Int)-1) (a1.tmod 3) a3
       generalize (delO u e (dR z) a1 ((y:Int)-1)).getD 0=o3 at*
       generalize (delO u e (dR z) a1 ((y:Int)-1)).isSome =o4 at*
       generalize KaP u d e (dR z) a2 ((y:Int)-1)=KP at*
       generalize waiF u e (dR z) ((y:Int)-1) (a1.tmod 3) a3 e.length=WI at*
       (repeat' (conv=>whnf);first|refine aC ?_ ?_<;>intro<;>try omega|refine z1_Oex ?_|refine⟨0,rfl,by omega,?_⟩|refine⟨1,rfl,by omega,?_⟩|refine⟨2,rfl,by omega,?_⟩|(refine aK [] (cD1) ?_)|(refine aK [] (cD2) ?_)|(refine aK [] (cA1) ?_)|(refine aK [] (cA2) ?_)|(refine aK [] (cI1) ?_)|(refine aK [] (cI2) ?_)|refine And.intro (by decide) ?_|fail);all_goals try (conv=>whnf)
       all_goals try (exfalso;first|exact noteq (by assumption)|exact noiff (by assumption))
       all_goals exact⟨y+1,[0,1,2,3,4,5],by omega,by omega,by rw [show(((y+1:Nat):Int)-1)=((y:Int)-1)+1 by omega];(exact aL)⟩
      ·obtain rfl:y=4:=by omega
       (repeat' (conv=>whnf);first|refine aC ?_ ?_<;>intro<;>try omega|refine z1_Oex ?_|fail);all_goals try (conv=>whnf)
       exact⟨w+1,[0,1,2,3,4],by omega,by omega,by(exact aL)⟩
     ·(repeat' (conv=>whnf);first|refine aC ?_ ?_<;>intro<;>try omega|refine z1_Oex ?_|fail);all_goals try (conv=>whnf)
      refine aM [1] (BentD_ok _ k3 hL hk3 d hDS) rfl rfl ?_
      rintro _ _ ⟨⟨b,k4⟩,⟨hb,hk4⟩,rfl,rfl⟩
      dsimp only at hb hk4⊢
      (repeat' (conv=>whnf);first|refine aC ?_ ?_<;>intro<;>try omega|refine z1_Oex ?_|fail);all_goals try (conv=>whnf)
      clear hk3
      refine LoopOb.mk (Y:=Nat) (st:=fun y=>⟨[(297,i64 y),(296, .agg [.psl 1 (dls d), .psl 1 (dls b), .psl 1 (dls dd)]),(28, .ptr 4 0),(137,i64 c),(136, .agg [.psl 1 (trs R), .psl 1 (trs tr)]),(26, .psl 3 (pks e)),(120,i64 j),(119, .agg [.psl 3 (pks p), .psl 3 (pks q), .psl 3 (pks odd)]),(24, .ptr 3 0),(111,i64 i),(110, .agg [.psl 1 (strs n.nm), .psl 5 (lns n.ln), .psl 8 (fls n.fl), .psl 1 (strs m.nm), .psl 5 (lns m.ln), .psl 8 (fls m.fl), .psl 1 (strs raw.nm), .psl 5 (lns raw.ln), .psl 8 (fls raw.fl)]),(22, .psl 1 (dls d)),(20, .ptr 2 0),(19, .psl 3 (pks p)),(17, .ptr 1 0),(11, .ptr 0 0),(16, .bl false),(2, .psl 3 (pks odd)),(4, .psl 1 (dls dd)),(5,i64 pk),(6,i64 fk),(7,i64 tk)],[.box [.psl 1 (trs tr)],src (l.take 2000) k4, .box [.psl 1 (trs R)],nbx u, .box [.psl 1 (trs z)]]⟩)
       (inv:=fun y=>y≤3) (fun y=>3-y) 0 [0,1,2,3,4] (by simp) (by(exact aL)) ?_
      rintro y hy
      (repeat' (conv=>whnf);first|refine z1_Oex ?_|fail);all_goals try (conv=>whnf)
      refine CondOb.mk (fun hlt6=>?_) (fun hlt6=>?_)
      ·obtain⟨f,hf,hef⟩:∃f,DL f∧(y=0∧f=d∨y=1∧f=b∨y=2∧f=dd):=by
        rcases(show y=0∨y=1∨y=2 by omega)with h|h|h
        ·exact⟨d,hdl, .inl ⟨h,rfl⟩⟩
        ·exact⟨b,hb, .inr (.inl ⟨h,rfl⟩)⟩
        ·exact⟨dd,hdd, .inr (.inr ⟨h,rfl⟩)⟩
       (repeat' (conv=>whnf);first|refine z1_Oex ?_|fail);all_goals try (conv=>whnf)
       refine⟨y,rfl,(by omega),need_mk (a:= .psl 1 (dls f)) (by rcases hef with⟨rfl,rfl⟩|⟨rfl,rfl⟩|⟨rfl,rfl⟩<;>rfl) ?_⟩
       clear hef
       obtain⟨V,hVl,cV1,cV2⟩:∃V:List Vi,V.length≤300∧Ctr Tryz.prog 38 [ntv u, .psl 1 (dls f), .psl 3 (pks e), .agg [.psl 1 (trs z)]] [] (fun r o=>o=[]∧r= .psl 3 (vis V))∧Ctr Tryz.prog 39 [ntv u, .psl 1 (dls f), .psl 3 (pks e), .agg [.psl 1 (trs z)]] [] (fun r o=>o=[]∧r= .psl 3 (vis V)):=by
        by_cases hsh:ShapeP u f
        ·exact⟨vioL u f e (dR z),Nat.le_trans (List.length_filter_le _ _) (by have:=tell_len hK (D:=dR z) e.length (Nat.le_refl _);have:=hK.l;omega),OVio_ok u hu f hf hsh e hK z hz.m,RVio_ok u hu f hf hsh e hK z hz.m⟩
        ·exact⟨[],by simp,OVioN_ok u hu f hf hsh e hK z,RVioN_ok u hu f hf hsh e hK z⟩
       have hvl:=vis_len V
       (repeat' (conv=>whnf);first|refine aC ?_ ?_<;>intro<;>try omega|refine z1_Oex ?_|(refine aK [] (cV1) ?_)|(refine aK [] (cV2) ?_)|fail);all_goals try (conv=>whnf)
       all_goals try (exfalso;first|exact noteq (by assumption)|exact noiff (by assumption))
       refine LoopOb.mk (Y:=Nat) (st:=fun x=>⟨[(317,i64 x),(316,i64 (vis V).length),(45, .psl 3 (vis V)),(44, .psl 3 (vis V)),(297,i64 y),(296, .agg [.psl 1 (dls d), .psl 1 (dls b), .psl 1 (dls dd)]),(28, .ptr 4 0),(137,i64 c),(136, .agg [.psl 1 (trs R), .psl 1 (trs tr)]),(26, .psl 3 (pks e)),(120,i64 j),(119, .agg [.psl 3 (pks p), .psl 3 (pks q), .psl 3 (pks odd)]),(24, .ptr 3 0),(111,i64 i),(110, .agg [.psl 1 (strs n.nm), .psl 5 (lns n.ln), .psl 8 (fls n.fl), .psl 1 (strs m.nm), .psl 5 (lns m.ln), .psl 8 (fls m.fl), .psl 1 (strs raw.nm), .psl 5 (lns raw.ln), .psl 8 (fls raw.fl)]),(22, .psl 1 (dls d)),(20, .ptr 2 0),(19, .psl 3 (pks p)),(17, .ptr 1 0),(11, .ptr 0 0),(16, .bl false),(2, .psl 3 (pks odd)),(4, .psl 1 (dls dd)),(5,i64 pk),(6,i64 fk),(7,i64 tk)],[.box [.psl 1 (trs tr)],src (l.take 2000) k4, .box [.psl 1 (trs R)],nbx u, .box [.psl 1 (trs z)]]⟩)
        (inv:=fun x=>x≤V.length) (fun x=>V.length-x) 0 [0,1,2,3,4] (by omega) (by(exact aL)) ?_
       rintro x hx
       by_cases hxl:x<V.length
       ·obtain⟨v,hg⟩:∃v,(vis V)[x]? =some (viw v):=⟨V[x],by simp [vis,hxl]⟩
        (repeat' (conv=>whnf);first|refine⟨x,_,rfl,hg,?_⟩|refine aC ?_ ?_<;>intro<;>try omega|refine z1_Oex ?_|fail);all_goals try (conv=>whnf)
        all_goals first
         |exact⟨x+1,[0,1,2,3,4],by omega,by omega,by(exact aL)⟩
         |exact(noconj3 (by assumption)).elim
         |trace_state
       ·obtain rfl:x=V.length:=by omega
        (repeat' (conv=>whnf);first|refine aC ?_ ?_<;>intro<;>try omega|refine z1_Oex ?_|fail);all_goals try (conv=>whnf)
        exact⟨y+1,[0,1,2,3,4],by omega,by omega,by(exact aL)⟩
      ·(repeat' (conv=>whnf);first|refine aC ?_ ?_<;>intro<;>try omega|refine z1_Oex ?_|fail);all_goals try (conv=>whnf)
       exact⟨(c+1,k4),[0,1,2,3],⟨by dsimp only;omega,hk4⟩,by dsimp only;omega,by(exact aL)⟩
    ·(repeat' (conv=>whnf);first|refine aC ?_ ?_<;>intro<;>try omega|refine z1_Oex ?_|fail);all_goals try (conv=>whnf)
     exact⟨(j+1,k),[0,1,2,3],⟨by dsimp only;omega,hk0⟩,by dsimp only;omega,by(exact aL)⟩
   ·(repeat' (conv=>whnf);first|refine aC ?_ ?_<;>intro<;>try omega|refine z1_Oex ?_|(refine aK [] (cK1) ?_)|(refine aK [] (cK2) ?_)|(refine aK [] (cC) ?_)|fail);all_goals try (conv=>whnf)
    all_goals try (exfalso;first|exact noteq (by assumption)|exact noiff (by assumption))
    exact⟨(j+1,k),[0,1,2,3],⟨by dsimp only;omega,hk0⟩,by dsimp only;omega,by(exact aL)⟩
  ·(repeat' (conv=>whnf);first|refine aC ?_ ?_<;>intro<;>try omega|refine z1_Oex ?_|fail);all_goals try (conv=>whnf)
   exact⟨(i+1,k),[0,1,2],⟨by dsimp only;omega,hk0⟩,by dsimp only;omega,by(exact aL)⟩
 ·(repeat' (conv=>whnf);first|refine aC ?_ ?_<;>intro<;>try omega|refine z1_Oex ?_|(refine aK [] (sane36_ok) ?_)|fail);all_goals try (conv=>whnf)
  all_goals rfl
end Go.Proofs.YtaomhdljcdadaaaGreat
