/- Lemmas of this seat. Conditions: as stated. -/
import Derived.Test.YtjhmjiimpmmnhaaGreatJ11
import Derived.Test.YtjhmjiimpmmnhaaGreatGu
import Derived.Test.YtjhmjiimpmmnhaaGreatKn
import Derived.Test.YtjhmjiimpmmnhaaGreatMp
import Derived.Test.YtjhmjiimpmmnhaaGreatMtt
set_option linter.unusedVariables false
set_option linter.unusedSimpArgs false
set_option maxHeartbeats 2000000
set_option maxRecDepth 4000
namespace Go.Proofs.YtjhmjiimpmmnhaaGreat
open Go.Sx Go.Cv Go.Gd Go.Np Go.Pk Go.St Go.Mc
theorem Numbers_ok (L:List Int) (k:Nat) (hL:L.length≤2000) (hk:k≤2000) (m:Nat) (hm:m≤1000) (n:Int) (hn:1≤n) (hn2:n≤1000000):
  Ctr Tryz.prog 18 [.ptr 0 0,i64 m,i64 n] [src L k] (fun r o=>∃x:List Int×Nat,(x.1.length=m∧(∀y∈x.1,0≤y∧y<n)∧x.2≤2000)∧o=[src L x.2, .vec 1 (ints x.1)]∧r= .vec 1):=by
 refine fI 1 Tryz.func18 ?_
 (repeat' (conv=>whnf);first|refine aC ?_ ?_<;>intro<;>try omega|refine z2_T11 ?_|fail);all_goals try (conv=>whnf)
 refine LoopOb.mk (Y:=List Int×Nat) (st:=fun y=>⟨[(8,i64 y.1.length),(7, .vec 1),(0, .ptr 0 0),(1,i64 m),(2,i64 n)],[src L y.2, .vec 1 (ints y.1)]⟩)
  (inv:=fun y=>y.1.length≤m∧(∀z∈y.1,0≤z∧z<n)∧y.2≤2000) (fun y=>m-y.1.length) ([],k) [0,2] ⟨by simp,by simp,hk⟩ (by(exact aL)) ?_
 rintro⟨G,k⟩ ⟨h1,h2,hk⟩
 dsimp only at h1 h2 hk⊢
 have hGl:=ints_len G
 by_cases hlt:G.length<m
 ·(repeat' (conv=>whnf);first|refine aC ?_ ?_<;>intro<;>try omega|refine z2_T11 ?_|fail);all_goals try (conv=>whnf)
  refine aM [0] (N_ok _ k hL hk n hn (by omega)) rfl rfl ?_
  rintro _ _ ⟨⟨v,k2⟩,⟨v1,v2,hk2⟩,rfl,rfl⟩
  dsimp only at v1 v2 hk2⊢
  (repeat' (conv=>whnf);first|refine aC ?_ ?_<;>intro<;>try omega|refine z2_T11 ?_|fail);all_goals try (conv=>whnf)
  exact⟨(G++[v],k2),[0,3],⟨by simp only [List.length_append,List.length_cons,List.length_nil];omega,fun z hz=>by
   rcases List.mem_append.1 hz with hz|hz
   ·exact h2 z hz
   ·obtain rfl:=List.mem_singleton.1 hz;exact⟨v1,v2⟩,hk2⟩,by simp only [List.length_append,List.length_cons,List.length_nil];omega,by
   rw [show ints (G++[v])=ints G++[[i64 v]]by simp [ints],show(((G++[v]).length :Nat):Int)=G.length+1 by simp];(exact aL)⟩
 ·(repeat' (conv=>whnf);first|refine aC ?_ ?_<;>intro<;>try omega|refine z2_T11 ?_|fail);all_goals try (conv=>whnf)
  exact⟨(G,k),⟨by dsimp only;omega,h2,hk⟩,rfl,rfl⟩
theorem so_build {n:Nt} {k m:Nat} (h:SoN n k) (hf:∀f∈n.fl,FlG m k f) (h3:n.fl.length≤3) {os cs:List Int} (hol:os.length=n.fl.length) (ho:∀x∈os,0≤x∧x≤5) (hcl:cs.length=n.fl.length) (hcb:∀x∈cs,0≤x∧x≤4) {d:Nat} (hd:d≤19):
  ∃P:List Pk,bldG n os cs=(P,0)∧bldG n (os.map (· +(d:Int))) cs=(shP d P,0)∧P.length≤12∧(∀x∈P,0≤x.t∧x.t≤341∧1≤x.s∧x.s≤7∧0≤x.f∧x.f≤3)∧SkP n P∧SkP n (shP d P):=by
 obtain⟨h1,h2,h3',h4,h5⟩:=so_bld hf hol ho hcl hcb hd n.fl.length (Nat.le_refl _)
 have hs1:=so_sk hf h.c (L:=bldL n os cs n.fl.length) (by omega) (T:=341) (by decide) fun x hx=>h5 x hx
 have hs2:=so_sk hf h.c (L:=shP d (bldL n os cs n.fl.length)) (by rw [shP_len];omega) (T:=380) (by decide) fun x hx=>by
  obtain⟨y,hy,rfl⟩:=List.mem_map.1 hx
  have:=h5 y hy
  exact⟨this.1,by simp only;omega,this.2.2⟩
 rw [srt_shP]at hs2
 refine⟨srt ptm (bldL n os cs n.fl.length),?_,?_,by rw [srt_len];omega,fun x hx=>?_,hs1,hs2⟩
 ·unfold bldG
  rw [if_neg (by rw [h.c];simp),if_neg (by omega),if_neg (by omega),if_neg (by omega)]
 ·unfold bldG
  rw [if_neg (by rw [h.c];simp),if_neg (by rw [List.length_map];omega),if_neg (by omega),h3',if_neg (by rw [shP_len];omega),srt_shP]
 ·have:=h5 x (srt_mem.1 hx)
  have hfx:=hf (pfl n x) (by unfold pfl;exact Go.Np.getD_in (by omega))
  have:=hfx.hi;have:=hfx.lo
  omega
theorem so_play {n:Nt} {k:Nat} (h:SoN n k) (hf:0<n.fl.length) {os os2 cs:List Int} {d:Nat} (hd:d≤19) {P:List Pk} (e1:bldG n os cs=(P,0)) (e2:bldG n os2 cs=(shP d P,0)) (hl:P.length≤12) (hb:∀x∈P,0≤x.t∧x.t≤341∧1≤x.s∧x.s≤7∧0≤x.f∧x.f≤3) (hS:SkP n P) (hS2:SkP n (shP d P)):
  (plG n 0 os2 cs).2 =(plG n 0 os cs).2 ∧(plG n 0 os2 cs).1.a =(plG n 0 os cs).1.a ∧(plG n 0 os2 cs).1.d =(plG n 0 os cs).1.d :=by
 have hr1:=rnG_in hS (show(0:Int)≤1000 by decide) (by decide)
 have hr2:=rnG_in hS2 (show(0:Int)≤1000 by decide) (by decide)
 have hw:=so_wor h hS (by omega) (fun i hi=>by have:=hb _ (Go.Np.getD_in (d:=pk0) hi);omega) hd 0 P.length (Nat.le_refl _)
 have e:(1000:Int).toNat =1000:=rfl
 unfold plG
 rw [e1,e2]
 simp only
 rw [hr1,hr2,e,shP_len]
 simp only
 rw [hw]
 have hne:n.fl≠[]:=fun c=>by rw [c]at hf;simp at hf
 generalize worF n P (dR (trR (toF n P) (liN n) 1000)) 0 P.length=w
 cases hwb:w.b<;>simp [hne,hwb]
theorem z3_J15 {G H:Prop} (k:H) (h:H→G:=by first|exact fun r=>aS r|exact fun r=>aG r|exact fun r=>aD r|exact fun r=>aP_T11 r|exact fun r=>aI r|exact fun r=>aJ r|exact fun r=>aW (.qs [0,1,2,3,5,6,7,8] (.l 4 [7] (.l 9 [] (.qs [10,11] .nil) .no) .no)) r|exact fun r=>aW (.qs [0,1,2,3,4,5,6,7,8,9,10,11,12,13,14,15,16,17,18,19,20,21,22] .nil) r):G:=h k
theorem z2_J15 {G H:Prop} (k:H) (h:H→G:=by first|exact fun r=>aS r|exact fun r=>aG r|exact fun r=>aD r|exact fun r=>aH r|exact fun r=>aP_T11 r|exact fun r=>aI r|exact fun r=>aJ r|exact fun r=>aW (.qs [0,1,2,3,5,6,7,8] (.l 4 [7] (.l 9 [] (.qs [10,11] .nil) .no) .no)) r|exact fun r=>aW (.qs [0,1,2,3,4,5,6,7,8,9,10,11,12,13,14,15,16,17,18,19,20,21,22] .nil) r):G:=h k
theorem sLaw_ok (l:List Int) (hl:l.length≤9223372036854775807) (w:Int) (hw:0≤w∧w≤255):
  Ctr Tryz.prog 6 [.psl 1 (ints l), .num .u8 w] [] (fun r o=>r= .bl true):=by
 refine fI 0 Tryz.func6 ?_
 have hil:=ints_len l
 (repeat' (conv=>whnf);first|refine aC ?_ ?_<;>intro _|refine z2_J15 ?_|(refine aK [] (sane37_ok) ?_)|fail);all_goals try (conv=>whnf)
 all_goals try rfl
 have hL:(l.take 2000).length ≤2000:=by rw [List.length_take];omega
 refine aK [] (New_ok l hl) ?_
 (repeat' (conv=>whnf);first|refine aC ?_ ?_<;>intro<;>try omega|refine z2_J15 ?_|fail);all_goals try (conv=>whnf)
 refine aM [0] (Net_ok _ 0 hL (by omega) 2 3 (by omega) (by omega)) rfl rfl ?_
 rintro _ _ ⟨⟨n,k,p1⟩,⟨hG,hp1⟩,rfl,rfl⟩
 dsimp only at hG hp1⊢
 have hn:=hG.nl
 have hg:=hG.g
 have hmf:=hG.mf
 have hlnl:=lnl n.ln
 have hfl:=fll n.fl
 have hll:=hg.ll
 (repeat' (conv=>whnf);first|refine aC ?_ ?_<;>intro<;>try omega|refine z2_J15 ?_|fail);all_goals try (conv=>whnf)
 refine LoopOb.mk (Y:=Nat) (st:=fun i=>⟨[(34,i64 i),(33,i64 (lns n.ln).length),(32, .psl 5 (lns n.ln)),(6, .ptr 1 0),(5, .ptr 0 0),(1, .num .u8 w)],[src (l.take 2000) p1, .box [.psl 1 (strs n.nm), .psl 5 (lns n.ln), .psl 8 (fls n.fl)]]⟩)
  (inv:=fun i=>i≤n.ln.length∧∀j,j<i→(n.ln.getD j ln0).k ≤2) (fun i=>n.ln.length-i) 0 [0,1] ⟨by omega,by omega⟩ (by(exact aL)) ?_
 rintro i ⟨hi,hkk⟩
 by_cases hil:i<n.ln.length
 ·have hgl:=lng (l:=n.ln) (i:=i) hil
  have hk2:(n.ln.getD i ln0).k ≤2→∀j,j<i+1→(n.ln.getD j ln0).k ≤2:=fun h j hj=>by
   by_cases e:j=i
   ·subst e;exact h
   ·exact hkk j (by omega)
  generalize n.ln.getD i ln0=x at*
  (repeat' (conv=>whnf);first|refine⟨i,_,rfl,hgl,?_⟩|refine aC ?_ ?_<;>intro<;>try omega|refine z2_J15 ?_|(refine aK [] (sane37_ok) ?_)|fail);all_goals try (conv=>whnf)
  all_goals first
   |rfl
   |exact⟨i+1,[0,1],⟨by omega,hk2 (by omega)⟩,by omega,by(exact aL)⟩
 ·obtain rfl:i=n.ln.length:=by omega
  (repeat' (conv=>whnf);first|refine aC ?_ ?_<;>intro<;>try omega|refine z2_J15 ?_|(refine aK [] (sane37_ok) ?_)|fail);all_goals try (conv=>whnf)
  ·rfl
  have hm5:n.fl.length≤5:=by omega
  rw [hfl]at*
  refine aM [0] (Numbers_ok _ p1 hL hp1 n.fl.length (by omega) 6 (by omega) (by omega)) rfl rfl ?_
  rintro _ _ ⟨⟨os,p2⟩,⟨ol,ob,hp2⟩,rfl,rfl⟩
  dsimp only at ol ob hp2⊢
  (repeat' (conv=>whnf);first|refine aC ?_ ?_<;>intro<;>try omega|refine z2_J15 ?_|fail);all_goals try (conv=>whnf)
  refine aM [0] (Numbers_ok _ p2 hL hp2 n.fl.length (by omega) 5 (by omega) (by omega)) rfl rfl ?_
  rintro _ _ ⟨⟨cs,p3⟩,⟨cl',cb,hp3⟩,rfl,rfl⟩
  dsimp only at cl' cb hp3⊢
  have hwb:=tmod_bd (a:=w) (b:=20) hw.1 (by decide)
  obtain⟨d,hd⟩:∃d:Nat,w.tmod 20=d:=⟨(w.tmod 20).toNat,by omega⟩
  rw [hd]at hwb
  have hosl:=ints_len os
  have hcsl:=ints_len cs
  (repeat' (conv=>whnf);first|refine aC ?_ ?_<;>intro<;>try omega|refine z2_J15 ?_|refine And.intro (by decide) ?_|fail);all_goals try (conv=>whnf)
  refine LoopOb.mk (Y:=Nat) (st:=fun i=>⟨[(66,i64 i),(65,i64 (ints os).length),(64, .vec 1),(8, .vec 1),(9, .vec 2),(11, .vec 3),(10,i64 d),(6, .ptr 0 0)],[.box [.psl 1 (strs n.nm), .psl 5 (lns n.ln), .psl 8 (fls n.fl)], .vec 1 (ints os), .vec 1 (ints cs), .vec 1 (ints ((os.take i).map (· +(d:Int))))]⟩)
   (inv:=fun i=>i≤os.length) (fun i=>os.length-i) 0 [1,2,3,4] (by omega) (by(exact aL)) ?_
  rintro i hi'
  by_cases hio:i<os.length
  ·have hg:=ints_get (l:=os) (j:=i) hio
   have hb:=ob _ (Go.Np.getD_in (d:=0) hio)
   have hnx:ints ((os.take (i+1)).map (· +(d:Int)))=ints ((os.take i).map (· +(d:Int)))++[[i64 (os.getD i 0+d)]]:=by
    rw [List.take_succ_eq_append_getElem hio,show os.getD i 0=os[i]by rw [List.getD_eq_getElem?_getD,List.getElem?_eq_getElem hio];rfl]
    simp only [ints,List.map_append,List.map_cons,List.map_nil]
   have hml:(ints ((os.take i).map (· +(d:Int)))).length ≤i:=by rw [ints_len,List.length_map,List.length_take];omega
   generalize ints ((os.take i).map (· +(d:Int)))=Q at*
   generalize os.getD i 0=x at*
   (repeat' (conv=>whnf);first|refine⟨_,hg,?_⟩|refine⟨i,rfl,by omega,?_⟩|refine aC ?_ ?_<;>intro<;>try omega|refine z2_J15 ?_|fail);all_goals try (conv=>whnf)
   exact⟨i+1,[0,1,2,5],by omega,by omega,by rw [hnx];(exact aL)⟩
  ·obtain rfl:i=os.length:=by omega
   rw [List.take_length]
   (repeat' (conv=>whnf);first|refine aC ?_ ?_<;>intro<;>try omega|refine z3_J15 ?_|fail);all_goals try (conv=>whnf)
   have hN:SoN n k:=⟨hg,hg.chk,fun x hx=>by
    obtain⟨j,hj,rfl⟩:=List.getElem_of_mem hx
    have h1:=hkk j hj
    have h2:=(hg.le _ hx).1
    rw [List.getD_eq_getElem?_getD,List.getElem?_eq_getElem hj]at h1
    simp only [Option.getD_some]at h1
    unfold lnErr at h2
    split at h2
    ·cases h2
    ·omega⟩
   obtain⟨P,e1,e2,hP12,hPb,hS,hS2⟩:=so_build hN hg.fg hmf ol (fun x hx=>by have:=ob x hx;omega) cl' (fun x hx=>by have:=cb x hx;omega) (d:=d) (by omega)
   obtain⟨q1,q2,q3⟩:=so_play hN (by omega) (d:=d) (by omega) e1 e2 hP12 hPb hS hS2
   have cB1:=Build_ok n hn os cs (by omega) (by omega)
   have cB2:=Build_ok n hn (os.map (· +(d:Int))) cs (by rw [List.length_map];omega) (by omega)
   rw [e1]at cB1
   rw [e2]at cB2
   have cP1:=Play_ok n hn 0 os cs (by omega) (by omega)
   have cP2:=Play_ok n hn 0 (os.map (· +(d:Int))) cs (by rw [List.length_map];omega) (by omega)
   generalize plG n 0 os cs=A1 at*
   generalize plG n 0 (os.map (· +(d:Int))) cs=A2 at*
   obtain⟨A1,x1⟩:=A1
   obtain⟨A2,x2⟩:=A2
   dsimp only at q1 q2 q3 cP1 cP2 cB1 cB2
   have hpl:=pks_len P
   have hpl2:=pks_len (shP d P)
   rw [shP_len]at hpl2
   refine .mk [.fz 1, .fz 2, .fz 3] ?_
   (repeat' (conv=>whnf);first|refine aC ?_ ?_<;>intro<;>try omega|refine z2_J15 ?_|(refine aK [] (cB1) ?_)|(refine aK [] (cB2) ?_)|(refine aK [] (cP1) ?_)|(refine aK [] (cP2) ?_)|fail);all_goals try (conv=>whnf)
   refine LoopOb.mk (Y:=Nat) (st:=fun i=>⟨[(139,i64 i),(138,i64 (pks P).length),(14, .psl 3 (pks P)),(16, .psl 3 (pks (shP d P))),(10,i64 d)],[]⟩)
    (inv:=fun i=>i≤P.length) (fun i=>P.length-i) 0 [] (by omega) (by(exact aL)) ?_
   rintro i hi2
   by_cases hiP:i<P.length
   ·have hgp:=pks_get (l:=P) (j:=i) hiP
    have hgq:=pks_get (l:=shP d P) (j:=i) (by rw [shP_len];exact hiP)
    have hb:=hPb _ (Go.Np.getD_in (d:=pk0) hiP)
    rw [shP_at hiP]at hgq
    generalize P.getD i pk0=x at*
    (repeat' (conv=>whnf);first|refine⟨i,_,rfl,hgq,?_⟩|refine⟨i,_,rfl,hgp,?_⟩|refine aC ?_ ?_<;>intro<;>try omega|refine z2_J15 ?_|fail);all_goals try (conv=>whnf)
    all_goals first
     |exact⟨i+1,[],by omega,by omega,by(exact aL)⟩
     |(rename_i h;exact absurd (by simp [conj]) h)
   ·obtain rfl:i=P.length:=by omega
    (repeat' (conv=>whnf);first|refine aC ?_ ?_<;>intro<;>try omega|refine z2_J15 ?_|(refine aK [] (sane37_ok) ?_)|fail);all_goals try (conv=>whnf)
    all_goals rfl
end Go.Proofs.YtjhmjiimpmmnhaaGreat
