/- Lemmas of this seat. Conditions: as stated. -/
import Derived.Test.YtbcjojomkibgeaaGreatY7
set_option linter.unusedVariables false
set_option linter.unusedSimpArgs false
set_option maxHeartbeats 2000000
set_option maxRecDepth 4000
namespace Go.Proofs.YtbcjojomkibgeaaGreat
open Go.Sx Go.Fq Go.Np Go.Pv
theorem dms_set {l:List Dm} {i:Nat} {d:Dm}:(dms l).set i (dmv d)=dms (l.set i d):=by simp [dms,List.map_set]
theorem gd_set {l:List Dm} {i j:Nat} {d:Dm} (hi:i<l.length):(l.set i d).getD j dm0=if i=j then d else l.getD j dm0:=by
 rw [List.getD_eq_getElem?_getD,List.getElem?_set]
 by_cases e:i=j
 ·rw [if_pos e,if_pos e,if_pos hi];rfl
 ·rw [if_neg e,if_neg e,List.getD_eq_getElem?_getD]
theorem aP_Y9 {A B K:Prop} (k:K) (a:A:=by(simp only [zA,zT,zD,zC,zN,ints_len,zR,dml_len,lnl];omega)) (b:B:=by(simp only [zA,zT,zD,zC,zN,ints_len,zR,dml_len,lnl];omega)):(A∧B)∧K:=⟨⟨a,b⟩,k⟩
theorem z2_Y9 {G H:Prop} (k:H) (h:H→G:=by first|exact fun r=>aS r|exact fun r=>aG r|exact fun r=>aD r|exact fun r=>aP_Y9 r|exact fun r=>aI r|exact fun r=>aJ r|exact fun r=>aW (.qs [0,1,2,3,4,5,6,7,8,9,10,11,12,13,14,15,16] (.l 17 [] .nil .no)) r):G:=h k
theorem z1_Y9 {G H:Prop} (k:H) (h:H→G:=by first|exact fun r=>aS r|exact fun r=>aG r|exact fun r=>aD r|exact fun r=>aH r|exact fun r=>aP_Y9 r|exact fun r=>aI r|exact fun r=>aJ r|exact fun r=>aW (.qs [0,1,2,3,4,5,6,7,8,9,10,11,12,13,14,15,16] (.l 17 [] .nil .no)) r):G:=h k
theorem Free_ok (t:List Int) (ht:t.length≤9223372036854775807) (a b:Int) (ha:0≤a∧a≤255) (hb:0≤b∧b≤255):Ctr Tryz.prog 5 [.psl 1 (ints t), .num .u8 a, .num .u8 b] [] (fun r o=>r= .bl true):=by
 refine fI 0 Tryz.func5 ?_
 have hL:(t.take 2000).length ≤2000:=by rw [List.length_take];omega
 (repeat' (conv=>whnf);first|refine aC ?_ ?_<;>intro<;>try omega|refine z1_Y9 ?_|(refine aK [] (sane34_ok) ?_)|(refine aK [] (New_ok t ht) ?_)|fail);all_goals try (conv=>whnf)
 ·rfl
 refine aM [0] (Net_ok _ 0 hL (by omega) 3 4 (by omega) (by omega)) rfl rfl ?_
 rintro _ _ ⟨⟨n,q,k1⟩,⟨hG,hk1⟩,rfl,rfl⟩
 dsimp only at hG hk1⊢
 have hn:=hG.nl
 have hmf:=hG.mf
 have hml:=hG.ml
 have hfl:=fll n.fl
 have hln:=lnl n.ln
 have hl1:=hG.g.ll
 (repeat' (conv=>whnf);first|refine aC ?_ ?_<;>intro<;>try omega|refine z1_Y9 ?_|(refine aK [] (sane34_ok) ?_)|fail);all_goals try (conv=>whnf)
 ·rfl
 refine aM [0] (Demands_ok _ k1 hL hk1 n (by omega)) rfl rfl ?_
 rintro _ _ ⟨⟨l,k2⟩,⟨hll,hd,hk2⟩,rfl,rfl⟩
 dsimp only at hll hd hk2⊢
 have hdl:=dml_len l
 (repeat' (conv=>whnf);first|refine aC ?_ ?_<;>intro _|refine z1_Y9 ?_|fail);all_goals try (conv=>whnf)
 refine LoopOb.mk (Y:=Nat×List Dm) (st:=fun y=>⟨[(40,i64 y.1),(39,i64 l.length),(9, .vec 2),(8, .ptr 1 0),(1, .num .u8 a),(2, .num .u8 b)],[src (t.take 2000) k2, .box [.psl 1 (strs n.nm), .psl 5 (lns n.ln), .psl 8 (fls n.fl)], .vec 3 (dms y.2)]⟩)
  (inv:=fun y=>y.1≤l.length∧y.2.length=l.length∧(∀j,j<l.length→DmG (y.2.getD j dm0))∧∀j<y.1,(y.2.getD j dm0).lo =0) (fun y=>l.length-y.1) (0,l) [0,1,2] ⟨by simp,rfl,fun j hj=>hd _ (Go.Np.getD_in hj),fun j hj=>absurd hj (by simp)⟩ (by rw [hdl];(exact aL)) ?_
 rintro⟨i,l'⟩ ⟨hi,hl',hd',hz⟩
 dsimp only at hi hl' hd' hz⊢
 have hdl':=dml_len l'
 (repeat' (conv=>whnf);first|refine z1_Y9 ?_|fail);all_goals try (conv=>whnf)
 refine CondOb.mk (fun hlt=>?_) (fun hlt=>?_)
 ·have hil:i<l'.length:=by omega
  have hg:=dml_get hil
  have hdi:=hd' i (by omega)
  have hset:=dms_set (l:=l') (i:=i) (d:=⟨0,(l'.getD i dm0).hi,(l'.getD i dm0).w⟩)
  have hgs:=fun j=>gd_set (l:=l') (i:=i) (j:=j) (d:=⟨0,(l'.getD i dm0).hi,(l'.getD i dm0).w⟩) hil
  generalize l'.getD i dm0=d at*
  (repeat' (conv=>whnf);first|refine aC ?_ ?_<;>intro<;>try omega|refine z1_Y9 ?_|refine⟨i,rfl,(by rw [hdl'];omega),?_⟩|refine⟨_,hg,?_⟩|fail);all_goals try (conv=>whnf)
  refine⟨(i+1,l'.set i ⟨0,d.hi,d.w⟩),[0,1,2],⟨by dsimp only;omega,by simp [hl'],fun j hj=>?_,fun j hj=>?_⟩,by dsimp only;omega,by dsimp only;rw [←hset];(exact aL)⟩
  ·dsimp only;rw [hgs];split
   ·unfold DmG at hdi⊢;dsimp only;omega
   ·exact hd' j hj
  ·dsimp only at hj⊢;rw [hgs];split
   ·rfl
   ·exact hz j (by omega)
 have e:i=l.length:=by omega
 subst e
 obtain⟨k,hk,hkl⟩:∃k:Nat,a.tmod ((lns n.ln).length :Int)=k∧k<n.ln.length:=by
  rw [hln,Int.tmod_eq_emod_of_nonneg ha.1]
  have h1:=Int.emod_nonneg a (b:=(n.ln.length:Int)) (by omega)
  have h2:=Int.emod_lt_of_pos a (b:=(n.ln.length:Int)) (by omega)
  exact⟨(a%(n.ln.length:Int)).toNat,by omega,by omega⟩
 have hgk:=lng hkl
 have hcap:=(hG.lg _ (Go.Np.getD_in (d:=ln0) hkl)).p.c4
 have hc1:=(chk_lines hG.g.chk).2.2 k hkl
 obtain⟨c,hc,hc0,hc20⟩:∃c:Int,b.tmod 20=c∧0≤c∧c<20:=by
  rw [Int.tmod_eq_emod_of_nonneg hb.1];exact⟨_,rfl,by omega,by omega⟩
 have hrs:(rsN n k c).ln =n.ln.set k {n.ln.getD k ln0 with c:=(n.ln.getD k ln0).c +c}:=rfl
 have hlset:(lns n.ln).set k (lnv {n.ln.getD k ln0 with c:=(n.ln.getD k ln0).c +c})=lns (rsN n k c).ln :=by simp [lns,hrs,List.map_set]
 generalize hlk:n.ln.getD k ln0=lk at*
 (repeat' (conv=>whnf);first|refine And.intro (by decide) ?_|refine And.intro (by omega) ?_|refine aC ?_ ?_<;>intro _|refine z2_Y9 ?_|rw [hk]|rw [hc]|refine⟨k,rfl,(by rw [hln];omega),?_⟩|refine⟨_,hgk,?_⟩|fail);all_goals try (conv=>whnf)
 have hgm:=rs_ntg (c:=c) hG.g hkl hc0 (by rw [hlk];omega)
 have hdm:∀d∈l',DmG d∧d.lo=0:=fun d h=>by
  obtain⟨j,hj,rfl⟩:=List.getElem_of_mem h
  have h1:=hd' j (by omega)
  have h2:=hz j (by omega)
  rw [List.getD_eq_getElem?_getD,List.getElem?_eq_getElem hj]at h1 h2
  exact⟨h1,h2⟩
 have hdo:∀d∈l',DmOK d:=fun d h=>by have:=(hdm d h).1;unfold DmG at this;unfold DmOK;omega
 have hds:∀d∈l',d.hi≤50∧d.w≤10:=fun d h=>by have:=(hdm d h).1;unfold DmG at this;omega
 have hc24:∀x∈n.ln,x.c≤24:=fun x hx=>(hG.lg x hx).p.c4
 have SN:PvS n l':=⟨pchk_of hG.g.chk (by omega) (by omega) (by omega) hdo,by omega,by omega,fun x hx=>by have:=hc24 x hx;omega,hds⟩
 have SM:PvS (rsN n k c) l':=⟨pchk_of hgm.chk (show n.fl.length≤6 by omega) (show l'.length=n.fl.length by omega) (by omega) hdo,by omega,by show(rsN n k c).ln.length ≤4;rw [hrs,List.length_set];omega,fun x hx=>by
  rw [hrs]at hx
  rcases List.mem_or_eq_of_mem_set hx with h|h
  ·have:=hc24 x h;omega
  ·rw [h];dsimp only;omega,hds⟩
 have hnm:NL (rsN n k c):=by
  refine⟨hn.nm,by rw [hrs,List.length_set];exact hn.ln,hn.fl,hn.ns,fun x hx=>?_,hn.fs⟩
  rw [hrs]at hx
  rcases List.mem_or_eq_of_mem_set hx with h|h
  ·exact hn.lw x h
  ·rw [h];exact hn.lw lk (by rw [←hlk];exact Go.Np.getD_in hkl)
 have c1:=pShare_ok n hn l' (by omega)
 have c2:=pShare_ok (rsN n k c) hnm l' (by omega)
 refine .mk [.fz 2, .fz 4] ?_
 (repeat' (conv=>whnf);first|refine aC ?_ ?_<;>intro<;>try omega|refine z1_Y9 ?_|fail);all_goals try (conv=>whnf)
 refine aM [] c1 rfl rfl ?_
 rintro _ _ ⟨⟨X1,s1,e1⟩,h1,rfl,rfl⟩
 have h1:=ShP.small h1 SN
 dsimp only at h1⊢
 have e10:=h1.free SN.chk (fun d h=>(hdm d h).2)
 subst e10
 have w1:=h1.worth
 have d1:=pWorth_ok l' (by omega) X1
 rw [w1.1]at d1
 (repeat' (conv=>whnf);first|refine aC ?_ ?_<;>intro<;>try omega|refine z1_Y9 ?_|fail);all_goals try (conv=>whnf)
 refine CallOb.mk [] c2 rfl ⟨Imp.agg ⟨Imp.refl _,Imp.psl (by rw [←hlset]),Imp.refl _,trivial⟩,Imp.refl _,trivial⟩ rfl rfl ?_
 rintro _ _ ⟨⟨X2,s2,e2⟩,h2,rfl,rfl⟩
 have h2:=ShP.small h2 SM
 dsimp only at h2⊢
 have e20:=h2.free SM.chk (fun d h=>(hdm d h).2)
 subst e20
 have w2:=h2.worth
 have d2:=pWorth_ok l' (by omega) X2
 rw [w2.1]at d2
 have hle:=free_le hkl hc0 SN.vp SM.vp w1.2.2.2.2 w2.2.2.2.2 w1.2.2.2.1 w2.2.2.2.1
 have cC:=rCompare_ok (-s1.2.2.1.1) s1.2.2.1.2 (-s2.2.2.1.1) s2.2.2.1.2
 generalize fcmp (-s1.2.2.1.1,s1.2.2.1.2) (-s2.2.2.1.1,s2.2.2.1.2)=z at*
 (repeat' (conv=>whnf);first|refine aC ?_ ?_<;>intro<;>try omega|refine z1_Y9 ?_|(refine aK [] d1 ?_)|(refine aK [] d2 ?_)|(refine aK [] cC ?_)|(refine aK [] (sane34_ok) ?_)|fail);all_goals try (conv=>whnf)
 all_goals first|rfl|exact absurd rfl (by assumption)
end Go.Proofs.YtbcjojomkibgeaaGreat
