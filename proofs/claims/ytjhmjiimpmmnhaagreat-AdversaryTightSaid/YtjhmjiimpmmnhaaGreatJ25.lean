/- Lemmas of this seat. Conditions: as stated. -/
import Derived.Test.YtjhmjiimpmmnhaaGreatJ22
import Derived.Test.YtjhmjiimpmmnhaaGreatSxQ
import Derived.Test.YtjhmjiimpmmnhaaGreatGf
import Derived.Test.YtjhmjiimpmmnhaaGreatS1
set_option linter.unusedVariables false
set_option linter.unusedSimpArgs false
set_option maxHeartbeats 2000000
set_option maxRecDepth 8000
namespace Go.Proofs.YtjhmjiimpmmnhaaGreat
section
open Go.Sx Go.Cv Go.Gd Go.Np Go.Pk Go.St Go.Mc Go.Tp
theorem z2_J25 {G H:Prop} (k:H) (h:H→G:=by first|exact fun r=>aS r|exact fun r=>aG r|exact fun r=>aD r|exact fun r=>aP_R1 r|exact fun r=>aI r|exact fun r=>aJ r|exact fun r=>aW (.qs [0,1,2,3,4,5,6,7,8] (.l 9 [] (.qs [10] .nil) .no)) r|exact fun r=>aW (.qs [0,1,2,3,4,5,6] (.l 7 [] (.qs [8,9,10,11,12] .nil) .no)) r):G:=h k
theorem z1_J25 {G H:Prop} (k:H) (h:H→G:=by first|exact fun r=>aS r|exact fun r=>aG r|exact fun r=>aD r|exact fun r=>aH r|exact fun r=>aP_R1 r|exact fun r=>aI r|exact fun r=>aJ r|exact fun r=>aW (.qs [0,1,2,3,4,5,6,7,8] (.l 9 [] (.qs [10] .nil) .no)) r|exact fun r=>aW (.qs [0,1,2,3,4,5,6] (.l 7 [] (.qs [8,9,10,11,12] .nil) .no)) r):G:=h k
theorem TgH.fwd {c z B:Int} (h:TgH c z B) (hB:(B-1)/c≤400):Ctr Tryz.prog 31 [ntv (tN c z B)] [] (fun r o=>o=[]∧r= .tup [.psl 1 (dls [[(B-1)/c]]),i64 0]):=by
 refine Ctr.imp ?_
 refine fI 0 Tryz.func31 ?_
 have cC:=rCheck_ok (tN c z B) TgH.nl
 rw [h.chk]at cC
 have cO:=h.ord
 have cZ:=h.zer
 have hl:((lns (tN c z B).ln).length :Int)=1:=rfl
 have hg:(lns (tN c z B).ln)[0]? =some (lnv (l1L c)):=rfl
 have hil:((ints [0]).length :Int)=1:=rfl
 have hi0:(ints [0])[0]? =some [i64 0]:=rfl
 (repeat' (conv=>whnf);first|refine aC ?_ ?_<;>intro<;>try omega|refine z1_J25 ?_|(refine aK [] (cC) ?_)|(refine aK [] (cO) ?_)|(refine aK [] (cZ) ?_)|fail);all_goals try (conv=>whnf)
 all_goals try contradiction
 have cD:Ctr Tryz.prog 61 [ntv (tN c z B), .vec 0,i64 0,i64 0] [.vec 1 (dls [[0]])] (fun r o=>o=[.vec 1 (dls [[0]])]∧r= .tup [i64 ((B-1)/c),i64 0]):=by
  refine((h.del hB).borrowV (args:=[ntv (tN c z B), .vec 0,i64 0,i64 0]) (esz:=1) (rows:=dls [[0]]) rfl ?_).mono ?_
  ·rintro r o ⟨rfl,rfl⟩;exact⟨rfl,by simp⟩
  ·rintro r o ⟨r1,o1,⟨rfl,rfl⟩,rfl,rfl⟩;exact⟨rfl,rfl⟩
 refine LoopOb.mk (Y:=Nat) (st:=fun i=>⟨[(7,i64 i),(6, .vec 1),(4, .psl 1 (ints [0])),(1, .ptr 0 0)],[nbx (tN c z B), .vec 1 (dls (if i=0 then [[0]]else [[(B-1)/c]]))]⟩)
  (inv:=fun i=>i≤1) (fun i=>1-i) 0 [0,3] (by omega) (by(exact aL)) ?_
 rintro i hi
 rcases(show i=0∨i=1 by omega)with rfl|rfl
 ·rw [if_pos rfl]
  (repeat' (conv=>whnf);first|refine⟨0,_,rfl,hi0,?_⟩|refine⟨0,_,rfl,hg,?_⟩|refine⟨1,1,rfl,rfl,Nat.le_refl _,⟨by decide,by decide⟩,?_⟩|refine aC ?_ ?_<;>intro<;>try omega|refine aS ?_|refine aG ?_|refine aD ?_|refine aH ?_|refine aP_R1 ?_|refine aI ?_|refine aJ ?_|refine⟨_,_,rfl,rfl,Nat.le_refl _,⟨by(simp only;omega),by omega⟩,?_⟩|refine aW (.qs [0,1,2,3,4,5,6,7,8] (.l 9 [] (.qs [10] .nil) .no)) ?_|refine aW (.qs [0,1,2,3,4,5,6] (.l 7 [] (.qs [8,9,10,11,12] .nil) .no)) ?_|fail);all_goals try (conv=>whnf)
  refine LoopOb.mk (Y:=Nat) (st:=fun t=>⟨[(9,i64 t),(8, .vec 2),(7,i64 0),(6, .vec 1),(4, .psl 1 (ints [0])),(1, .ptr 0 0)],[nbx (tN c z B), .vec 1 (dls [[0]]), .vec 1 (ints [if t=0 then 0 else(B-1)/c])]⟩)
   (inv:=fun t=>t≤1) (fun t=>1-t) 0 [0,1,2] (by omega) (by(exact aL)) ?_
  rintro t ht
  have hq1:((ints [(B-1)/c]).length :Int)=1:=rfl
  have hq0:((ints [0]).length :Int)=1:=rfl
  rcases(show t=0∨t=1 by omega)with rfl|rfl
  ·rw [if_pos rfl]
   (repeat' (conv=>whnf);first|refine⟨_,hi0,?_⟩|refine⟨0,rfl,by omega,?_⟩|refine⟨0,_,rfl,hi0,?_⟩|refine aC ?_ ?_<;>intro<;>try omega|refine z1_J25 ?_|(refine aK [1] cD ?_)|fail);all_goals try (conv=>whnf)
   all_goals first
    |contradiction
    |exact⟨1,[0,1,2],by omega,by omega,by rw [if_neg (by decide)];(exact aL)⟩
    |trace_state
  ·rw [if_neg (by decide)]
   have hdl:(dls [[0]]).length =1:=rfl
   have hd0:(dls [[0]])[0]? =some [.psl 1 (ints [0])]:=rfl
   (repeat' (conv=>whnf);first|refine⟨_,hd0,?_⟩|refine⟨0,rfl,by omega,?_⟩|refine⟨0,_,rfl,hi0,?_⟩|refine aC ?_ ?_<;>intro<;>try omega|refine z2_J25 ?_|fail);all_goals try (conv=>whnf)
   refine .mk [.fz 2] ?_
   (repeat' (conv=>whnf);first|refine⟨_,hd0,?_⟩|refine aC ?_ ?_<;>intro<;>try omega|refine z1_J25 ?_|fail);all_goals try (conv=>whnf)
   all_goals first
    |exact⟨1,[0,1],by omega,by omega,by rw [if_neg (by decide)];(exact aL)⟩
    |trace_state
 ·rw [if_neg (by decide)]
  (repeat' (conv=>whnf);first|refine aC ?_ ?_<;>intro<;>try omega|refine z2_J25 ?_|fail);all_goals try (conv=>whnf)
  refine .mk [.fa] ?_
  (repeat' (conv=>whnf);first|refine aC ?_ ?_<;>intro<;>try omega|refine z1_J25 ?_|fail);all_goals try (conv=>whnf)
  exact⟨rfl,Imp.tup ⟨Imp.refl _,Imp.refl _,trivial⟩⟩
end
section
open Go.Sx Go.Cv Go.Gd Go.Np Go.Pk Go.St Go.Mc Go.Tp
theorem rep_at {α:Type} {d x:α} {m i:Nat} (h:i<m):(List.replicate m x).getD i d=x:=by
 rw [List.getD_eq_getElem?_getD,List.getElem?_replicate,if_pos h];rfl
theorem rep_snoc {α:Type} (m:Nat) (x:α):List.replicate m x++[x]=List.replicate (m+1) x:=by
 rw [List.replicate_succ']
theorem tg_gre {z B:Int} {k:Nat} (hz:1≤z) (hB:B=z*k) (hB2:1≤B∧B≤1000000):∀j m,j+m=k→gre (val [0,B] 1 0) z k (List.replicate j 0) 0=List.replicate k 0
 |j,0,h=>by
  obtain rfl:j=k:=h
  exact gre_end (by rw [List.length_replicate];omega)
 |j,m+1,h=>by
  rw [gre_yes (by omega) (by rw [List.length_replicate];omega),rep_snoc]
  ·exact tg_gre hz hB hB2 (j+1) m (by omega)
  ·intro i hi
   rw [List.length_replicate]at hi
   rw [List.length_replicate,rep_snoc,rep_at hi]
   have e:val [0,B] 1 0 (0+1-0:Int).toNat =B:=by
    show cv ([0,B],1,0) 1=B
    rw [bur_cv hB2.1 (by omega)];rfl
   rw [e,hB,Int.mul_comm z]
   exact Int.mul_le_mul_of_nonneg_right (by omega) (by omega)
abbrev tgP (k:Nat) (z:Int):List Pk:=(List.replicate k (0:Int)).map fun t=>⟨0,t,z⟩
theorem TgH.greG {c z B:Int} (h:TgH c z B) {k:Nat} (hB:B=z*k) (hk:k≤60):greG [0,B] 1 0 z 0 k=(List.replicate k 0,0):=by
 have v:VC ([0,B],1,0):=bur_vf h.B.1 (by have:=h.B.2;omega)
 have:=h.z
 unfold Go.Proofs.YtjhmjiimpmmnhaaGreat.greG
 rw [if_neg (fun c=>c v.valid),if_neg (by omega),Int.toNat_natCast]
 exact congrArg (·,(0:Int)) (tg_gre (by omega) hB h.B 0 k (by omega))
theorem tgP_len (k:Nat) (z:Int):(tgP k z).length =k:=by simp
theorem tgP_at {k:Nat} {z:Int} {i:Nat} (h:i<k):(tgP k z).getD i pk0=⟨0,0,z⟩:=by
 simp [List.getD_eq_getElem?_getD,h]
theorem TgH.sk {c z B:Int} (h:TgH c z B) {k:Nat} (hk:k≤60):SkP (tN c z B) (tgP k z):=
 l1_sk h.chk h.z.1 (by rw [List.length_replicate];exact hk) (fun x hx=>by have:=(List.mem_replicate.1 hx).2;omega) (fun i j hij hi=>by
  rw [List.length_replicate]at hi;rw [rep_at hi,rep_at (by omega)];exact Int.le_refl _)
theorem TgH.enO {c z B:Int} (h:TgH c z B) {k:Nat} (hk:k≤60) (hB:B=z*k) (hB2:B≤1000) {i:Nat} (hi:i<k):
  enO (tN c z B) (tgP k z) (dR (trR (toF (tN c z B) (tgP k z)) (liN (tN c z B)) 1000)) i=some ((((i+1)*z.toNat-1)/c.toNat:Nat):Int):=by
 have hS:=h.sk hk
 have hl:=tgP_len k z
 have ha:=tgP_at (z:=z) hi
 have hz:=h.z
 have hc:=h.c
 have hps1:hps (tN c z B) (tgP k z) i=1:=by
  unfold hps;rw [Int.toNat_natCast,ha,if_neg (by rw [hl];show¬((i:Int)<0∨(k:Int)≤i∨(0:Int)<0∨(1:Int)≤0);omega)];rfl
 have hrt:((toF (tN c z B) (tgP k z)).rt i).length =1:=by
  show((pfl (tN c z B) ((tgP k z).getD i pk0)).rt.map Int.toNat).length =1
  rw [ha];rfl
 have hd:=trR_at (F:=toF (tN c z B) (tgP k z)) (Z:=liN (tN c z B)) (N:=1000) (i:=i) (h:=0) (by show i<(tgP k z).length;omega) (by omega)
 rw [l1_tr hS 1000 (by omega)]at hd
 have hr:=run_one (p:=tgP k z) (z:=z.toNat) (c:=c.toNat) (m:=k) (N:=1000) (by omega) (by omega) hl (fun j hj=>by unfold sz;rw [tgP_at hj]) (fun j hj=>by unfold tm;rw [tgP_at hj];simp) (by
  have e:((k*z.toNat:Nat):Int)=B:=by rw [hB,Int.natCast_mul,Int.toNat_of_nonneg (by omega),Int.mul_comm]
  have:1000*1≤1000*c.toNat:=Nat.mul_le_mul_left _ (by omega)
  omega) hi
 have hr2:(run ((liN (tN c z B)).C 0) (tgP k z) ((liN (tN c z B)).c 0) 1000).dn i=((((i+1)*z.toNat-1)/c.toNat:Nat):Int):=hr
 rw [hr2]at hd
 clear hr hr2
 generalize ((i+1)*z.toNat-1)/c.toNat=q at*
 unfold Go.Proofs.YtjhmjiimpmmnhaaGreat.enO
 rw [if_neg (by rw [hl];omega),hps1]
 unfold dnO
 rw [show((1:Int)-1).toNat =0 by rfl,Int.toNat_natCast,hd,if_neg (by omega),ha]
 simp
theorem TgH.wor {c z B:Int} (h:TgH c z B) {k:Nat} (hk:k≤60) (hB:B=z*k) (hB2:B≤1000):∀m,1≤m→m≤k→
  ∃a,worF (tN c z B) (tgP k z) (dR (trR (toF (tN c z B) (tgP k z)) (liN (tN c z B)) 1000)) 0 m=⟨a,(((m*z.toNat-1)/c.toNat:Nat):Int),true⟩
 |1,_,h1=>by
  refine⟨0,?_⟩
  simp only [worF]
  rw [h.enO hk hB hB2 h1,tgP_at h1]
  rfl
 |m+2,_,hm=>by
  obtain⟨a,ha⟩:=h.wor hk hB hB2 (m+1) (by omega) (by omega)
  have hle:((m+1)*z.toNat-1)/c.toNat≤((m+1+1)*z.toNat-1)/c.toNat:=Nat.div_le_div_right (by have:=Nat.mul_le_mul_right z.toNat (show m+1≤m+1+1 by omega);omega)
  rw [worF,h.enO hk hB hB2 (show m+1<k by omega),ha,tgP_at (by omega)]
  simp only
  by_cases hlt:((m+1)*z.toNat-1)/c.toNat<((m+1+1)*z.toNat-1)/c.toNat
  ·rw [if_pos ⟨trivial, .inr (by omega)⟩];exact⟨_,rfl⟩
  ·rw [if_neg (by rintro⟨_,k|k⟩;cases k;omega)]
   refine⟨a,?_⟩
   rw [show((m+1)*z.toNat-1)/c.toNat=((m+1+1)*z.toNat-1)/c.toNat by omega]
theorem TgH.pl {c z B:Int} (h:TgH c z B) {k:Nat} (hk:k≤60) (hB:B=z*k) (hB2:B≤1000):∃a,plG (tN c z B) 0 [0] [(k:Int)]=(⟨tgP k z,0,a,(B-1)/c⟩,0):=by
 have hk1:1≤k:=by
  rcases Nat.eq_zero_or_pos k with rfl|h'
  ·have:=h.B.1;rw [hB]at this;simp at this
  ·exact h'
 obtain⟨a,ha⟩:=h.wor hk hB hB2 k hk1 (by omega)
 have hb:=l1_bld h.chk (h.greG hB hk) (by rw [List.length_replicate];exact hk) h.z.1 (fun x hx=>by have:=(List.mem_replicate.1 hx).2;omega) (fun i j hij hi=>by
  rw [List.length_replicate]at hi;rw [rep_at hi,rep_at (by omega)];exact Int.le_refl _)
 have e:((((k*z.toNat-1)/c.toNat:Nat)):Int)=(B-1)/c:=by
  have hz:=h.z
  have hc:=h.c
  have e1:((k*z.toNat:Nat):Int)=B:=by rw [hB,Int.natCast_mul,Int.toNat_of_nonneg (by omega),Int.mul_comm]
  have e2:((k*z.toNat-1:Nat):Int)=B-1:=by have:=h.B.1;omega
  rw [Int.natCast_ediv,e2,Int.toNat_of_nonneg (by omega)]
 refine⟨a,?_⟩
 rw [l1_pl h.chk hb (h.sk hk) (w:=⟨a,(((k*z.toNat-1)/c.toNat:Nat):Int),true⟩) (by rw [tgP_len];exact ha) rfl,e]
end
section
open Go.Sx Go.Cv Go.Gd Go.Np Go.Pk Go.St Go.Mc Go.Tp
theorem endO_one {c z B:Int} (h:TgH c z B) {x:Int} (hx:0≤x∧x≤400):endO (tN c z B) [[x]] 0=some x:=by
 have e:Np.bef [[x]] ((tN c z B).fl.getD (0:Int).toNat fl0) 1=some x.toNat:=by
  simp only [Np.bef]
  show(if x<0 then none else some (0+x.toNat))=_
  rw [if_neg (by omega),Nat.zero_add]
 unfold endO
 rw [if_pos (by show(0:Int)≤0∧(0:Int)<1;omega)]
 have e1:((tN c z B).fl.getD (0:Int).toNat fl0).rt.length =1:=rfl
 rw [e1,e]
 simp only [Option.some.injEq]
 omega
theorem tLaw_ok (a b m:Int) (ha:0≤a∧a≤255) (hb:0≤b∧b≤255) (hm:0≤m∧m≤255):
  Ctr Tryz.prog 5 [.num .u8 a, .num .u8 b, .num .u8 m] [] (fun r o=>o=[]∧r= .bl true):=by
 refine Ctr.imp ?_
 refine fI 0 Tryz.func5 ?_
 have ta:=tmod_bd (a:=a) (b:=30) ha.1 (by decide)
 have tb:=tmod_bd (a:=b) (b:=9) hb.1 (by decide)
 have tm:=tmod_bd (a:=m) (b:=20) hm.1 (by decide)
 (repeat' (conv=>whnf);first|refine LitOb.ful ?_|refine aC ?_ ?_<;>intro<;>try omega|refine z2_T11 ?_|refine And.intro (by decide) ?_|fail);all_goals try (conv=>whnf)
 generalize hc:1+a.tmod 30=c
 generalize hz:1+b.tmod 9=z
 generalize hK:1+m.tmod 20=K
 have hc1:1≤c∧c≤30:=by omega
 have hz1:1≤z∧z≤9:=by omega
 have hK1:1≤K∧K≤20:=by omega
 clear hc hz hK
 obtain⟨k,rfl⟩:∃k:Nat,K=k:=⟨K.toNat,by omega⟩
 have hB2:=mul_bd (a:=z) (b:=k) (A:=9) (B:=20) (by omega) (by omega) (by omega) (by omega)
 have hB3:z*1≤z*k:=Int.mul_le_mul_of_nonneg_left hK1.1 (by omega)
 have hT:TgH c z (z*k):=⟨by omega,by omega,by omega⟩
 have hqv:=(tdiv_bd (a:=z*k-1) (b:=c) (by omega) hc1.1).2
 have hfin:(z*k+c-1).tdiv c=(z*k-1)/c+1:=by
  rw [(tdiv_bd (a:=z*k+c-1) (b:=c) (by omega) hc1.1).1,show z*(k:Int)+c-1=z*k-1+c*1 by omega,Int.add_mul_ediv_left _ _ (by omega)]
 have htb:0≤(z*k+c-1).tdiv c∧(z*k+c-1).tdiv c≤1000:=by omega
 obtain⟨pa,hP⟩:=hT.pl (k:=k) (by omega) rfl (by omega)
 have hx:0≤(z*(k:Int)-1)/c∧(z*(k:Int)-1)/c≤400:=by omega
 have cS:=Stair_ok (z*k) 1 0 (by decide)
 have cP:=Play_ok (tN c z (z*k)) TgH.nl 0 [0] [(k:Int)] (by simp) (by simp)
 rw [hP]at cP
 dsimp only at cP
 have cF:=hT.fwd hx.2
 have cE:=RHEnd_ok (tN c z (z*k)) TgH.nl [[(z*(k:Int)-1)/c]] (tg_dl _) (hT.sh hx) 0
 rw [endO_one hT hx]at cE
 have h0:ImpL [i64 1,i64 c,i64 1, .nil, .nil] (lnv (l1L c)):=⟨Imp.refl _,Imp.refl _,Imp.refl _,Imp.nil _,Imp.nil _,trivial⟩
 have h1:ImpL [.str ⟨#[102]⟩, .ful 1 [[i64 0]],i64 0,i64 1,i64 z, .psl 1 (ints (stv (z*k) 1)),i64 1,i64 0] (flv (l1F z [0,z*k] 1 0)):=⟨Imp.refl _,Imp.fulp rfl,Imp.refl _,Imp.refl _,Imp.refl _,Imp.refl _,Imp.refl _,Imp.refl _,trivial⟩
 have iN:Imp (.agg [.ful 1 [[.str ⟨#[97]⟩]], .ful 5 [[i64 1,i64 c,i64 1, .nil, .nil]], .ful 8 [[.str ⟨#[102]⟩, .ful 1 [[i64 0]],i64 0,i64 1,i64 z, .psl 1 (ints (stv (z*k) 1)),i64 1,i64 0]]]) (ntv (tN c z (z*k))):=Imp.agg ⟨Imp.fulp rfl,Imp.fulr ⟨h0,trivial⟩,Imp.fulr ⟨h1,trivial⟩,trivial⟩
 have i0:Imp (.ful 1 [[i64 0]]) (.psl 1 (ints [0])):=Imp.fulp rfl
 have iK:Imp (.ful 1 [[i64 k]]) (.psl 1 (ints [(k:Int)])):=Imp.fulp rfl
 refine ArOb.fits (by omega) ?_
 (repeat' (conv=>whnf);first|refine LitOb.ful ?_|refine aC ?_ ?_<;>intro<;>try omega|refine z2_T11 ?_|(refine aK [] cS ?_)|(refine CallOb.mk [] cP rfl ⟨iN,Imp.refl _,i0,iK,trivial⟩ rfl rfl ?_;rintro _ _ ⟨rfl,rfl⟩)|(refine CallOb.mk [] cF rfl ⟨iN,trivial⟩ rfl rfl ?_;rintro _ _ ⟨rfl,rfl⟩)|(refine CallOb.mk [] cE rfl ⟨iN,Imp.refl _,Imp.refl _,trivial⟩ rfl rfl ?_;rintro _ _ ⟨rfl,rfl⟩)|(refine aK [] sane37_ok ?_)|refine And.intro (by omega) ?_|fail);all_goals try (conv=>whnf)
 all_goals first
  |exact⟨rfl,Imp.refl _⟩
  |(exfalso;omega)
  |contradiction
  |trace_state
end
end Go.Proofs.YtjhmjiimpmmnhaaGreat
