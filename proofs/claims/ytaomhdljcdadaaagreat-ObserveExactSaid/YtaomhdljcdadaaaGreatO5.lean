/- Lemmas of this seat. Conditions: as stated. -/
import Derived.Test.YtaomhdljcdadaaaGreatO3
import Derived.Test.YtaomhdljcdadaaaGreatN9
import Derived.Test.YtaomhdljcdadaaaGreatW3
import Derived.Test.YtaomhdljcdadaaaGreatPl
import Derived.Test.YtaomhdljcdadaaaGreatT1
set_option linter.unusedVariables false
set_option linter.unusedSimpArgs false
set_option maxHeartbeats 2000000
set_option maxRecDepth 8000
namespace Go.Proofs.YtaomhdljcdadaaaGreat
section
open Go.Sx Go.Pk Go.Mc Go.Np Go.Tp
open Classical in
noncomputable def vioK (n:Nt) (d:List (List Int)) (p:List Pk) (v:Vi):Bool:=decide (if v.h<0 then∃b,endO n d (p.getD v.k pk0).f =some b∧b<v.x else dly d (pfl n (p.getD v.k pk0)) v.h.toNat≠-1∧dly d (pfl n (p.getD v.k pk0)) v.h.toNat<v.x)
noncomputable def vioL (n:Nt) (d:List (List Int)) (p:List Pk) (D:Tp):List Vi:=(tell n p D p.length).filter (vioK n d p)
theorem tell_mem {n:Nt} {p:List Pk} {D:Tp} {v:Vi} (h:v∈tell n p D p.length):v.k<p.length∧((v.h= -1∧enO n p D v.k=some v.x)∨∃h:Nat,h<(pfl n (p.getD v.k pk0)).rt.length ∧v.h=h∧delO n p D v.k h=some v.x):=allL_mem h
theorem tell_len {n:Nt} {p:List Pk} (h:SkP n p) {D:Tp}:∀i,i≤p.length→(tell n p D i).length ≤5*i
 |0,_=>Nat.le_refl _
 |i+1,hi=>by
  have ih:=tell_len h (D:=D) i (by omega)
  have r4:=(h.fl (i:=i) (by omega)).2.2.2.2.1.l2
  have ho:∀(i:Nat) (h:Int) o,(optL i h o).length ≤1:=fun i h o=>by cases o<;>simp [optL]
  have hh:∀k,(hopL (fun i h=>delO n p D i h) i k).length ≤k:=fun k=>by
   induction k with
   |zero=>exact Nat.le_refl _
   |succ k ihk=>rw [hopL,List.length_append];have:=ho i k (delO n p D i k);omega
  show(tell n p D i++(hopL (fun i h=>delO n p D i h) i (pfl n (p.getD i pk0)).rt.length ++optL i (-1) (enO n p D i))).length ≤_
  rw [List.length_append,List.length_append]
  have:=hh (pfl n (p.getD i pk0)).rt.length
  have:=ho i (-1) (enO n p D i)
  omega
theorem _root_.Go.Sx.CtrY.mono {P:Program} {Y:YP} {args:List SV} {own:List Chunk} {post post':SV→List Chunk→Prop} (h:CtrY P Y args own post) (hp:∀r o,post r o→post' r o):CtrY P Y args own post':=
 ⟨fun w σ β vs a b c n=>(h.run w σ β vs a b c n).mono fun e w' he=>by
  obtain⟨v,σ',β',own',r,a,b,c,d,q⟩:=he
  exact⟨v,σ',β',own',r,a,b,c,d,hp _ _ q⟩⟩
theorem z1_O5 {G H:Prop} (k:H) (h:H→G:=by first|exact fun r=>aS r|exact fun r=>aG r|exact fun r=>aD r|exact fun r=>aP_T1 r|exact fun r=>aI r|exact fun r=>aJ r|exact fun r=>aW (.qs [0,1,2,3,4,5,6,7,8,9,10,11,12,13] .nil) r):G:=h k
theorem OVio_ok (n:Nt) (hn:NL n) (d:List (List Int)) (hd:DL d) (hS:ShapeP n d) (p:List Pk) (h:SkP n p) (ms:List (List Int)) (hm:MsL ms):
  Ctr Tryz.prog 38 [ntv n, .psl 1 (dls d), .psl 3 (pks p), .agg [.psl 1 (trs ms)]] [] (fun r o=>o=[]∧r= .psl 3 (vis (vioL n d p (dR ms)))):=by
 refine Ctr.imp ?_
 refine fn_introR (E:=env 0) tys_ok rfl rfl rfl Tryz.func38 (by kernel_rfl) rfl (by kernel_rfl) ?_
 have h60:=h.l
 have hpl:=pks_len p
 have hfl:=fll n.fl
 (repeat' (conv=>whnf);first|exact absurd hS (by assumption)|refine AsgOb.nil ?_|refine aC ?_ ?_<;>intro<;>try omega|refine z1_O5 ?_|(refine Gh.mk [] ?_;(conv=>whnf);refine aK [] (Shape_ok n hn d hd) ?_)|(refine Gh.mk [] ?_;(conv=>whnf);refine aK [] (SChk_ok n hn p (by omega)) ?_;rw [sck_zero.2 h])|(refine Gh.mk [] ?_;(conv=>whnf);refine aK [] (Sent_ok n p ms) ?_)|fail);all_goals try (conv=>whnf)
 obtain⟨L,hL⟩:∃L,tell n p (dR ms) p.length=L:=⟨_,rfl⟩
 obtain⟨K,hK⟩:∃K,vioK n d p=K:=⟨_,rfl⟩
 have hvl:vioL n d p (dR ms)=L.filter K:=by rw [←hL,←hK];rfl
 have hLl:L.length≤300:=by rw [←hL];have:=tell_len h (D:=dR ms) p.length (Nat.le_refl _);omega
 refine .mk [.nb 4 0 3] ?_
 refine RangeOb.mk 5 (L.map fun v=>[.agg (viw v)]) (fun j o=>o=voA (preV n d p ms) ((L.take j).filter K)) (fun j o=>∀v,L[j-1]? =some v→o=if K v=true then voB (preV n d p ms) ((L.take j).filter K)else voA (preV n d p ms) ((L.take j).filter K)) (fun j o=>o=voA (preV n d p ms) (L.filter K)∨o=voB (preV n d p ms) (L.filter K)) (by kernel_rfl) (fun r hr=>by obtain⟨x,_,rfl⟩:=List.mem_map.1 hr;rfl) ?_ ?_ ?_
 ·intro Y hm5 hY
  rw [←hL]
  refine sent1_ok Y hm5 n hn p h ms hm d K fun j v hv=>?_
  rw [hL]at hv⊢
  exact(hY j _ [.agg (viw v)] rfl (by rw [List.getElem?_map,hv];rfl)).mono fun r o ⟨h1,h2⟩=>⟨h1,h2 v hv⟩
 ·rintro j o r rfl hr
  rw [List.getElem?_map]at hr
  cases hx:L[j]? with
  |none=>rw [hx]at hr;cases hr
  |some v=>
   rw [hx]at hr;cases hr
   have hvm:v∈tell n p (dR ms) p.length:=by rw [hL];exact List.mem_of_getElem? hx
   obtain⟨vk,vh⟩:=tell_mem hvm
   have hjl:j<L.length:=(List.getElem?_eq_some_iff.1 hx).1
   have hcl:((L.take j).filter K).length ≤300:=Nat.le_trans (List.length_filter_le _ _) (by rw [List.length_take];omega)
   have htk:L.take (j+1)=L.take j++[v]:=by rw [List.take_succ_eq_append_getElem hjl,(List.getElem?_eq_some_iff.1 hx).2]
   rw [show j+1-1=j from rfl]
   have hrow:(fun v:Vi=>[SV.agg (viw v)]) v=[.agg [i64 v.k,i64 v.h,i64 v.x]]:=rfl
   rw [hrow]
   have hR:∀o,(o=if K v=true then voB (preV n d p ms) (((L.take j).filter K)++[v])else voA (preV n d p ms) ((L.take j).filter K))→∀v',L[j]? =some v'→o=if K v'=true then voB (preV n d p ms) ((L.take (j+1)).filter K)else voA (preV n d p ms) ((L.take (j+1)).filter K):=fun o ho v' hv'=>by
    obtain rfl:=Option.some.inj (hx.symm.trans hv')
    rw [ho,htk,List.filter_append]
    by_cases c:K v=true
    ·rw [if_pos c,if_pos c,List.filter_cons,if_pos c,List.filter_nil]
    ·rw [if_neg c,if_neg c,List.filter_cons,if_neg c,List.filter_nil,List.append_nil]
   generalize (L.take j).filter K=V at*
   obtain⟨k,vhh,vx⟩:=v
   dsimp only at vk vh hR⊢
   obtain⟨f1,f2,t1,t2,hRt,_⟩:=h.fl vk
   have hfg:=flg (l:=n.fl) (i:=(p.getD k pk0).f.toNat) (by omega)
   have hg:=pks_get vk
   have hRt2:=chk_fl hS.c (p.getD k pk0).f.toNat (by omega)
   have cE:=HEnd_ok n hn d hd hS (p.getD k pk0).f
   have hKv:K ⟨k,vhh,vx⟩=true↔(if vhh<0 then∃b,endO n d (p.getD k pk0).f =some b∧b<vx else dly d (pfl n (p.getD k pk0)) vhh.toNat≠-1∧dly d (pfl n (p.getD k pk0)) vhh.toNat<vx):=by rw [←hK];exact decide_eq_true_iff
   unfold pfl at hKv vh
   have hvl2:=vis_len V
   rcases vh with⟨rfl,he⟩|⟨hh,hhl,rfl,he⟩
   ·rw [if_pos (by decide)]at hKv
    cases ho:endO n d (p.getD k pk0).f with
    |none=>
     rw [ho]at cE hKv
     simp only [arrT]at cE
     rw [if_neg (fun c=>by obtain⟨b,e,_⟩:=hKv.1 c;cases e)]at hR
     clear hKv
     generalize n.fl.getD (p.getD k pk0).f.toNat fl0=fw at*
     generalize p.getD k pk0=x at*
     (repeat' (conv=>whnf);first|refine⟨x.f.toNat,_,by omega,hfg,?_⟩|refine⟨k,_,rfl,hg,?_⟩|refine aC ?_ ?_<;>intro<;>try omega|refine z1_O5 ?_|(refine Gh.mk [] ?_;(conv=>whnf);refine aK [] cE ?_)|fail);all_goals try (conv=>whnf)
     refine .mk [.wk [0,1,2,3,4,5] ⟨[],voA (preV n d p ms) V⟩] ⟨by(exact aL),?_⟩
     (repeat' (conv=>whnf);first|refine aC ?_ ?_<;>intro<;>try omega|refine z3_W3 ?_|fail);all_goals try (conv=>whnf)
     all_goals exact hR _ rfl
    |some b=>
     rw [ho]at cE hKv
     simp only [arrT,Option.some.injEq,exists_eq_left']at cE hKv
     generalize n.fl.getD (p.getD k pk0).f.toNat fl0=fw at*
     generalize p.getD k pk0=x at*
     by_cases hb:b<vx
     ·rw [if_pos (hKv.2 hb)]at hR
      clear hKv
      (repeat' (conv=>whnf);first|refine⟨x.f.toNat,_,by omega,hfg,?_⟩|refine⟨k,_,rfl,hg,?_⟩|refine aC ?_ ?_<;>intro<;>try omega|refine z1_O5 ?_|(refine Gh.mk [] ?_;(conv=>whnf);refine aK [] cE ?_)|fail);all_goals try (conv=>whnf)
      refine .mk [.wk [0,1,2,3,4,5,9] ⟨[],voB (preV n d p ms) (V++[⟨k,-1,vx⟩])⟩] ⟨by dsimp only [voB];rw [vis_app];(exact aL),?_⟩
      (repeat' (conv=>whnf);first|refine aC ?_ ?_<;>intro<;>try omega|refine z3_W3 ?_|fail);all_goals try (conv=>whnf)
      all_goals exact hR _ rfl
     ·rw [if_neg (fun c=>hb (hKv.1 c))]at hR
      clear hKv
      (repeat' (conv=>whnf);first|refine⟨x.f.toNat,_,by omega,hfg,?_⟩|refine⟨k,_,rfl,hg,?_⟩|refine aC ?_ ?_<;>intro<;>try omega|refine z1_O5 ?_|(refine Gh.mk [] ?_;(conv=>whnf);refine aK [] cE ?_)|fail);all_goals try (conv=>whnf)
      refine .mk [.wk [0,1,2,3,4,5] ⟨[],voA (preV n d p ms) V⟩] ⟨by(exact aL),?_⟩
      (repeat' (conv=>whnf);first|refine aC ?_ ?_<;>intro<;>try omega|refine z3_W3 ?_|fail);all_goals try (conv=>whnf)
      all_goals exact hR _ rfl
   ·rw [if_neg (by omega),Int.toNat_natCast]at hKv
    obtain⟨d1,d2,d3,d4⟩:=hS.dly hRt2 hhl
    have b1:=hRt2.b hh hhl
    have c1:=hRt2.c hh hhl
    unfold dly at hKv d3 d4
    generalize n.fl.getD (p.getD k pk0).f.toNat fl0=fw at*
    have grt:=ints_get (l:=fw.rt) (j:=hh) hhl
    have hrl:=ints_len fw.rt
    have gdl:=dls_get (d:=d) (i:=(fw.rt.getD hh 0).toNat) d1
    have gdd:=ints_get (l:=d.getD (fw.rt.getD hh 0).toNat []) (j:=fw.cl.toNat) d2
    have hil2:=ints_len (d.getD (fw.rt.getD hh 0).toNat [])
    have hdl:=dls_len d
    have hd1:=hd.l
    have hrw:=hd.r (fw.rt.getD hh 0).toNat
    have r4:=hRt2.l2
    clear hRt2 hRt
    generalize fw.rt.getD hh 0=vv at*
    generalize d.getD vv.toNat []=row at*
    generalize row.getD fw.cl.toNat 0=z at*
    generalize p.getD k pk0=x at*
    by_cases hb:z≠-1∧z<vx
    ·rw [if_pos (hKv.2 hb)]at hR
     clear hKv
     (repeat' (conv=>whnf);first|refine⟨fw.cl.toNat,_,by omega,gdd,?_⟩|refine⟨vv.toNat,_,by omega,gdl,?_⟩|refine⟨hh,_,rfl,grt,?_⟩|refine⟨x.f.toNat,_,by omega,hfg,?_⟩|refine⟨k,_,rfl,hg,?_⟩|refine aC ?_ ?_<;>intro<;>try omega|refine z1_O5 ?_|fail);all_goals try (conv=>whnf)
     refine .mk [.wk [0,1,2,3,4,5,9] ⟨[],voB (preV n d p ms) (V++[⟨k,hh,vx⟩])⟩] ⟨by dsimp only [voB];rw [vis_app];(exact aL),?_⟩
     (repeat' (conv=>whnf);first|refine aC ?_ ?_<;>intro<;>try omega|refine z3_W3 ?_|fail);all_goals try (conv=>whnf)
     all_goals exact hR _ rfl
    ·rw [if_neg (fun c=>hb (hKv.1 c))]at hR
     clear hKv
     (repeat' (conv=>whnf);first|refine⟨fw.cl.toNat,_,by omega,gdd,?_⟩|refine⟨vv.toNat,_,by omega,gdl,?_⟩|refine⟨hh,_,rfl,grt,?_⟩|refine⟨x.f.toNat,_,by omega,hfg,?_⟩|refine⟨k,_,rfl,hg,?_⟩|refine aC ?_ ?_<;>intro<;>try omega|refine z1_O5 ?_|fail);all_goals try (conv=>whnf)
     all_goals refine .mk [.wk [0,1,2,3,4,5] ⟨[],voA (preV n d p ms) V⟩] ⟨by(exact aL),?_⟩
     all_goals exact hR _ rfl
 ·rintro o (rfl|rfl)
  ·rw [hvl]
   (repeat' (conv=>whnf);first|refine aC ?_ ?_<;>intro<;>try omega|refine z1_O5 ?_|fail);all_goals try (conv=>whnf)
   refine .mk [.fz 5] ?_
   (repeat' (conv=>whnf);first|refine aC ?_ ?_<;>intro<;>try omega|refine z3_W3 ?_|fail);all_goals try (conv=>whnf)
   exact⟨rfl,Imp.refl _⟩
  ·rw [hvl]
   (repeat' (conv=>whnf);first|refine aC ?_ ?_<;>intro<;>try omega|refine z1_O5 ?_|fail);all_goals try (conv=>whnf)
   refine .mk [.fz 6] ?_
   (repeat' (conv=>whnf);first|refine aC ?_ ?_<;>intro<;>try omega|refine z3_W3 ?_|fail);all_goals try (conv=>whnf)
   exact⟨rfl,Imp.refl _⟩
end
section
open Go.Sx Go.Cv
theorem bd_vals {F:Nat→Int} {N P:Nat} {Q:Int} (hF:∀t,t<N→0≤F t∧F t≤INF) (h1:1≤P) (h2:P≤N) (h3:N≤2000) (h4:0≤Q) (h5:Q≤1099511627776):Bd (vals F N) P Q:=
 ⟨h1,by rw [vals_len];exact h2,by rw [vals_len];exact h3,h4,h5,fun j=>by
  by_cases hj:j<N
  ·rw [vals_get hj];exact hF j hj
  ·rw [List.getD_eq_getElem?_getD,List.getElem?_eq_none (by rw [vals_len];omega)];simp⟩
end
section
open Go.Sx Go.Cv
theorem vc_bd {a:C3} (h:VC a) {t:Nat} (ht:t≤1048576):0≤cv a t∧cv a t≤6000000000000000000:=val_bd (bd_of h) ht
theorem rAt_ok (a:C3) (t:Nat) (ha:VC a) (ht:t≤1048576):Ctr Tryz.prog 143 [crv a.1 a.2.1 a.2.2,i64 t] [] (fun r o=>o=[]∧r=i64 (cv a t)):=
 (At_ok a.1 a.2.1 a.2.2 t (bd_of ha) (by omega) (by omega)).mono (fun r o ⟨h1,h2⟩=>⟨h1,by rw [h2];simp [cv]⟩)
end
section
open Go.Sx Go.Pk Go.Cv Go.St
theorem aP_C1 {A B K:Prop} (k:K) (a:A:=by(simp only [zA,zT,zD,zC,zN,ints_len,zR,pks_len,Go.Cv.vals_len];omega)) (b:B:=by(simp only [zA,zT,zD,zC,zN,ints_len,zR,pks_len,Go.Cv.vals_len];omega)):(A∧B)∧K:=⟨⟨a,b⟩,k⟩
theorem z1_C1 {G H:Prop} (k:H) (h:H→G:=by first|exact fun r=>aS r|exact fun r=>aG r|exact fun r=>aD r|exact fun r=>aH r|exact fun r=>aP_C1 r|exact fun r=>aI r|exact fun r=>aJ r):G:=h k
theorem end_ok (p : List Pk) (hv : Vld p) : Ctr Tryz.prog 176 [.psl 3 (pks p)] [] (fun r o => o = [] ∧ r = i64 (endN p)) := by
  refine fI 0 Tryz.func176 ?_
  have hpl := pks_len p
  have hp := hv.l
  have hb : ∀ h : 0 < p.length, ¬bad (p.getD (p.length - 1) pk0) := fun h => hv.g _ (by omega)
  have hg : ∀ h : 0 < p.length, (pks p)[p.length - 1]? = some (pkw (p.getD (p.length - 1) pk0)) := fun h => pks_get (by omega)
  have e0 : p.length = 0 → endN p = 0 := fun h => by unfold endN; rw [h]
  have e1 : 0 < p.length → endN p = ((p.getD (p.length - 1) pk0).t + 1).toNat := fun h => by
    obtain ⟨n, hn⟩ : ∃ n, p.length = n + 1 := ⟨p.length - 1, by omega⟩
    unfold endN; rw [hn]; rfl
  unfold bad at hb
  generalize p.getD (p.length - 1) pk0 = x at *
  (repeat' (conv => whnf); first | refine ⟨p.length - 1, _, by omega, hg (by omega), ?_⟩ | refine aC ?_ ?_ <;> intro <;> try omega | refine z1_C1 ?_ | fail); all_goals try (conv => whnf)
  all_goals first
    | exact ⟨rfl, by rw [e0 (by omega)]; rfl⟩
    | (have h1 := e1 (by omega)
       have h2 := hb (by omega)
       exact ⟨rfl, by rw [h1, Int.toNat_of_nonneg (by omega)]; rfl⟩)
    | trace_state
theorem z2_C1 {G H:Prop} (k:H) (h:H→G:=by first|exact fun r=>aS r|exact fun r=>aG r|exact fun r=>aD r|exact fun r=>aP_C1 r|exact fun r=>aI r|exact fun r=>aJ r):G:=h k
theorem Table_ok (f:C3) (hf:VC f) (n:Nat) (hn:n≤100000):Ctr Tryz.prog 130 [crv f.1 f.2.1 f.2.2,i64 n] [] (fun r o=>o=[]∧r= .psl 1 (ints (vals (cv f) n))):=by
 refine Ctr.imp ?_
 refine fI 0 Tryz.func130 ?_
 (repeat' (conv=>whnf);first|refine AsgOb.nil ?_|refine aC ?_ ?_<;>intro<;>try omega|refine z1_C1 ?_|refine⟨_,_,rfl,rfl,Nat.le_refl _,⟨by(simp only;omega),by omega⟩,?_⟩|fail);all_goals try (conv=>whnf)
 have hz:=rowsAt_zero (cv f) n
 refine LoopOb.mk (Y:=Nat) (st:=fun t=>⟨[(11,i64 t),(10,i64 n),(5, .vec 1),(2, .ptr 0 0)],[.box [.psl 1 (ints f.1),i64 f.2.1,i64 f.2.2], .vec 1 (ints (rowsAt (cv f) t n))]⟩)
  (inv:=fun t=>t≤n) (fun t=>n-t) 0 [0,1] (by omega) (by dsimp only;rw [hz];refine Le.mk (by kernel_rfl) ?_ ?_<;>repeat' (first|exact True.intro|refine And.intro ?_ ?_|exact Imp.refl _|exact Imp.any _|exact Imp.num (by simp)|exact rfl)) ?_
 intro t ht
 have hl:=rowsAt_len (cv f) ht
 have hil:=ints_len (rowsAt (cv f) t n)
 (repeat' (conv=>whnf);first|refine z1_C1 ?_|fail);all_goals try (conv=>whnf)
 refine CondOb.mk (fun hlt=>?_) (fun hlt=>?_)
 ·have htn:t<n:=by omega
  have hs:=rowsAt_set (cv f) htn
  (repeat' (conv=>whnf);first|refine⟨_,ints_get (by omega),?_⟩|refine⟨t,by omega,by omega,?_⟩|refine aC ?_ ?_<;>intro<;>try omega|refine z1_C1 ?_|(refine aK [] (WAt_ok f.1 f.2.1 f.2.2 t (bd_of hf) (by omega) (by omega)) ?_)|fail);all_goals try (conv=>whnf)
  exact⟨t+1,[0,1],by omega,by omega,by rw [←hs];(exact aL)⟩
 ·have e:t=n:=by omega
  subst e
  rw [rowsAt_full]
  (repeat' (conv=>whnf);first|refine aC ?_ ?_<;>intro<;>try omega|refine z2_C1 ?_|fail);all_goals try (conv=>whnf)
  refine .mk [.fz 1] ?_
  (repeat' (conv=>whnf);first|refine aC ?_ ?_<;>intro<;>try omega|refine z1_C1 ?_|fail);all_goals try (conv=>whnf)
  exact⟨rfl,Imp.refl _⟩
theorem sums_ok (p:List Pk) (hv:Vld p) (flow:Int):Ctr Tryz.prog 129 [.psl 3 (pks p),i64 flow] [] (fun r o=>o=[]∧r= .psl 1 (ints (vals (csm p flow) (endN p+1)))):=by
 refine Ctr.imp ?_
 refine fI 0 Tryz.func129 ?_
 have hp:=hv.l
 have hN:endN p≤2001:=by
  unfold endN
  split
  ·omega
  ·rename_i i hi
   have:=hv.g i (by omega)
   unfold bad at this;omega
 obtain⟨n,hn⟩:∃n,endN p+1=n:=⟨_,rfl⟩
 have hni:((endN p:Nat):Int)+1=n:=by omega
 rw [hn]
 have hz:=rowsAt_zero (csm p flow) n
 (repeat' (conv=>whnf);first|refine AsgOb.nil ?_|refine aC ?_ ?_<;>intro<;>try omega|refine z1_C1 ?_|(refine aK [] (end_ok p hv) ?_)|fail);all_goals try (conv=>whnf)
 rw [hni]
 (repeat' (conv=>whnf);first|refine aC ?_ ?_<;>intro<;>try omega|refine z1_C1 ?_|refine⟨_,_,rfl,rfl,Nat.le_refl _,⟨by(simp only;omega),by omega⟩,?_⟩|fail);all_goals try (conv=>whnf)
 refine LoopOb.mk (Y:=Nat) (st:=fun t=>⟨[(13,i64 t),(12,i64 n),(5, .vec 0),(0, .psl 3 (pks p)),(1,i64 flow)],[.vec 1 (ints (rowsAt (csm p flow) t n))]⟩)
  (inv:=fun t=>t≤n) (fun t=>n-t) 0 [0] (by omega) (by dsimp only;rw [hz];refine Le.mk (by kernel_rfl) ?_ ?_<;>repeat' (first|exact True.intro|refine And.intro ?_ ?_|exact Imp.refl _|exact Imp.any _|exact Imp.num (by simp)|exact rfl)) ?_
 intro t ht
 have hl:=rowsAt_len (csm p flow) ht
 have hil:=ints_len (rowsAt (csm p flow) t n)
 (repeat' (conv=>whnf);first|refine z1_C1 ?_|fail);all_goals try (conv=>whnf)
 refine CondOb.mk (fun hlt=>?_) (fun hlt=>?_)
 ·have htn:t<n:=by omega
  have hs:=rowsAt_set (csm p flow) htn
  (repeat' (conv=>whnf);first|refine⟨_,ints_get (by omega),?_⟩|refine⟨t,by omega,by omega,?_⟩|refine aC ?_ ?_<;>intro<;>try omega|refine z1_C1 ?_|(refine aK [] (Bytes_ok p (by omega) hv.sml flow t) ?_)|fail);all_goals try (conv=>whnf)
  exact⟨t+1,[0],by omega,by omega,by rw [←hs];(exact aL)⟩
 ·have e:t=n:=by omega
  subst e
  rw [rowsAt_full]
  (repeat' (conv=>whnf);first|refine aC ?_ ?_<;>intro<;>try omega|refine z2_C1 ?_|fail);all_goals try (conv=>whnf)
  refine .mk [.fz 0] ?_
  (repeat' (conv=>whnf);first|refine aC ?_ ?_<;>intro<;>try omega|refine z1_C1 ?_|fail);all_goals try (conv=>whnf)
  exact⟨rfl,Imp.refl _⟩
theorem cCheck_ok (p:List Pk) (hv:Vld p) (flow:Int) (hf: -1≤flow) (f:C3) (vf:VC f):Ctr Tryz.prog 128 [.psl 3 (pks p),i64 flow,crv f.1 f.2.1 f.2.2] [] (fun r o=>o=[]∧r=i64 0):=by
 refine fI 0 Tryz.func128 ?_
 have hp:=hv.l
 have cV:=Validate_ok p (by omega)
 rw [vld_zero.2 hv]at cV
 have hV:ValidP f.1 f.2.1 f.2.2:=vf.valid
 (repeat' (conv=>whnf);first|refine aC ?_ ?_<;>intro<;>try omega|refine z1_C1 ?_|(refine aK [] cV ?_)|(refine aK [] (CValid_ok f.1 f.2.1 f.2.2 (by have:=vf.n2;omega)) ?_)|fail);all_goals try (conv=>whnf)
 all_goals first
  |exact⟨rfl,rfl⟩
  |exact absurd hV (by assumption)
  |trace_state
end
end Go.Proofs.YtaomhdljcdadaaaGreat
