/- Lemmas of this seat. Conditions: as stated. -/
import Derived.Test.YtbcjojomkibgeaaGreatP4
import Derived.Test.YtbcjojomkibgeaaGreatPl
set_option linter.unusedVariables false
set_option linter.unusedSimpArgs false
set_option maxHeartbeats 2000000
set_option maxRecDepth 4000
namespace Go.Proofs.YtbcjojomkibgeaaGreat
section
open Go.Sx Go.Fq Go.Dt
abbrev tab (N k w n m:Nat) (f:Nat→Nat→Int) (bs tu sl:Nat→Int) (d co:Int) (ov:Prop):List Chunk:=
 [.box [.vec 1,i64 d, .vec 2, .vec 3, .vec 4,i64 co,i64 n,i64 m, .bp ov], .mat 1 (mts N w f), .vec 1 (vcs k bs), .vec 1 (vcs k tu), .vec 1 (vcs k sl)]
theorem b62_0:B62 0:=by decide
theorem tab_ov {N k w n m:Nat} {f:Nat→Nat→Int} {bs tu sl:Nat→Int} {d co:Int}:OI [.box [.vec 1,i64 d, .vec 2, .vec 3, .vec 4,i64 co,i64 n,i64 m, .bl true], .mat 1 (mts N w f), .vec 1 (vcs k bs), .vec 1 (vcs k tu), .vec 1 (vcs k sl)] (tab N k w n m f bs tu sl d co True):=
 ⟨⟨Imp.refl _,Imp.refl _,Imp.refl _,Imp.refl _,Imp.refl _,Imp.refl _,Imp.refl _,Imp.refl _,Imp.bl (by simp),trivial⟩,rfl,rfl,rfl,rfl,trivial⟩
theorem tab_of {N k w n m:Nat} {f:Nat→Nat→Int} {bs tu sl:Nat→Int} {d co:Int}:OI [.box [.vec 1,i64 d, .vec 2, .vec 3, .vec 4,i64 co,i64 n,i64 m, .bl false], .mat 1 (mts N w f), .vec 1 (vcs k bs), .vec 1 (vcs k tu), .vec 1 (vcs k sl)] (tab N k w n m f bs tu sl d co False):=
 ⟨⟨Imp.refl _,Imp.refl _,Imp.refl _,Imp.refl _,Imp.refl _,Imp.refl _,Imp.refl _,Imp.refl _,Imp.bl (by simp),trivial⟩,rfl,rfl,rfl,rfl,trivial⟩
theorem Ctr.pre {P:Program} {f:Nat} {args:List SV} {own own':List Chunk} {post:SV→List Chunk→Prop} (c:Ctr P f args own post) (h:OI own' own):Ctr P f args own' post:=
 ⟨c.1,fun w σ β vs h1 h2=>c.2 w σ β vs (h1.impO h) h2⟩
theorem mul_ok (N k w n m:Nat) (f:Nat→Nat→Int) (bs tu sl:Nat→Int) (d co:Int) (ov:Prop) (a b:Int) (ha:B62 a) (hb:B62 b):
  Ctr Tryz.prog 120 [.ptr 0 0,i64 a,i64 b] (tab N k w n m f bs tu sl d co ov) (fun r o=>∃x:Prop×Int,Cal ov x.1 (a*b) x.2∧o=tab N k w n m f bs tu sl d co x.1∧r=i64 x.2):=by
 refine Ctr.impO ?_
 refine fI 5 Tryz.func120 ?_
 have h1:=mulw_bd ha hb
 have h2:=mulw_ex (a:=a) hb
 have h3:=mulw_fit (a:=a) (b:=b)
 have hz:a=0∨b=0→a*b=0:=fun h=>by rcases h with h|h<;>subst h<;>simp
 have hw:=Go.IntKind.wrap_i64 (a*b)
 generalize hc:Go.IntKind.i64.wrap (a*b)=c at*
 generalize hP:a*b=P at*
 (repeat' (conv=>whnf);first|refine⟨by assumption,?_⟩|(refine ArOb.wraps ?_;rw [hP,hc])|refine aC ?_ ?_<;>intro<;>try omega|refine z1_F1 ?_|fail);all_goals try (conv=>whnf)
 ·have h0:=hz (.inl (by assumption))
  exact⟨(ov,0),⟨fun h=>⟨h,h0.symm⟩,fun _ h=>h,b62_0⟩,OI.refl _,Imp.refl _⟩
 ·have h0:=hz (.inr (by assumption))
  exact⟨(ov,0),⟨fun h=>⟨h,h0.symm⟩,fun _ h=>h,b62_0⟩,OI.refl _,Imp.refl _⟩
 all_goals
  have hb0:b≠0:=by assumption
  have h1:=h1 hb0
  have h2:=h2 hb0
  have h3:=h3 hb0
 ·exact⟨(True,0),⟨fun h=>absurd trivial h,fun hf _=>absurd (by obtain⟨e1,e2⟩:=h3 hf;rw [e1];exact e2) (by assumption:c.tdiv b≠a),b62_0⟩,tab_ov,Imp.refl _⟩
 ·exact⟨(True,0),⟨fun h=>absurd trivial h,fun hf _=>by have:=h3 hf;exfalso;omega,b62_0⟩,tab_ov,Imp.refl _⟩
 ·exact⟨(True,0),⟨fun h=>absurd trivial h,fun hf _=>by have:=h3 hf;exfalso;omega,b62_0⟩,tab_ov,Imp.refl _⟩
 ·exact⟨(ov,c),⟨fun h=>⟨h,h2 (Classical.not_not.1 (by assumption))⟩,fun _ h=>h,by show B62 c;omega⟩,OI.refl _,Imp.refl _⟩
theorem sub_ok (N k w n m:Nat) (f:Nat→Nat→Int) (bs tu sl:Nat→Int) (d co:Int) (ov:Prop) (a b:Int) (ha:B62 a) (hb:B62 b):
  Ctr Tryz.prog 138 [.ptr 0 0,i64 a,i64 b] (tab N k w n m f bs tu sl d co ov) (fun r o=>∃x:Prop×Int,Cal ov x.1 (a-b) x.2∧o=tab N k w n m f bs tu sl d co x.1∧r=i64 x.2):=by
 refine Ctr.impO ?_
 refine fI 5 Tryz.func138 ?_
 have hw:=Go.IntKind.wrap_i64 (a-b)
 generalize hc:Go.IntKind.i64.wrap (a-b)=c at*
 (repeat' (conv=>whnf);first|(refine ArOb.wraps ?_;rw [hc])|refine aC ?_ ?_<;>intro<;>try omega|refine z1_F1 ?_|fail);all_goals try (conv=>whnf)
 all_goals first
  |exact⟨(True,0),⟨fun h=>absurd trivial h,fun hf _=>by exfalso;omega,b62_0⟩,tab_ov,Imp.refl _⟩
  |exact⟨(ov,c),⟨fun h=>⟨h,by dsimp only;omega⟩,fun _ h=>h,by show B62 c;omega⟩,OI.refl _,Imp.refl _⟩
end
section
open Go.Sx Go.Fq Go.Dt
theorem sgcd_ok (a b:Int) (ha:B62 a) (hb:B62 b):Ctr Tryz.prog 137 [i64 a,i64 b] [] (fun r o=>o=[]∧r=i64 (Nat.gcd a.natAbs b.natAbs)):=by
 refine fI 0 Tryz.func137 ?_
 (repeat' (conv=>whnf);first|refine aC ?_ ?_<;>intro _|refine z2_F1 ?_|fail);all_goals try (conv=>whnf)
 refine LoopOb.mk (Y:=Int×Int) (st:=fun y=>⟨[(0,i64 y.1),(1,i64 y.2)],[]⟩)
  (inv:=fun y=>(B62 y.1∧B62 y.2)∧Nat.gcd y.1.natAbs y.2.natAbs=Nat.gcd a.natAbs b.natAbs) (fun y=>y.2.natAbs) (a,b) [] ⟨⟨ha,hb⟩,rfl⟩ (by(exact aL)) ?_
 rintro⟨x,y⟩ ⟨⟨hx,hy⟩,hg⟩
 dsimp only at hx hy hg⊢
 (repeat' (conv=>whnf);first|refine aC ?_ ?_<;>intro _|refine z2_F1 ?_|fail);all_goals try (conv=>whnf)
 ·have hy0:y≠0:=by assumption
  have e:(x.tmod y).natAbs =x.natAbs%y.natAbs:=Int.natAbs_tmod x y
  have hl:x.natAbs%y.natAbs<y.natAbs:=Nat.mod_lt _ (by omega)
  refine⟨hy0,?_⟩
  generalize x.tmod y=z at*
  (repeat' (conv=>whnf);first|refine aC ?_ ?_<;>intro _|refine z2_F1 ?_|fail);all_goals try (conv=>whnf)
  refine⟨(y,z),[],⟨⟨hy,by dsimp only;omega⟩,?_⟩,by dsimp only;omega,by(exact aL)⟩
  rw [←hg]
  dsimp only
  rw [e,Nat.gcd_comm x.natAbs y.natAbs,Nat.gcd_rec y.natAbs x.natAbs,Nat.gcd_comm]
 ·have hy0:y=0:=Classical.not_not.1 (by assumption)
  subst hy0
  have e:Nat.gcd a.natAbs b.natAbs=x.natAbs:=by rw [←hg];simp
  rw [e]
  exact⟨rfl,by show SV.num _ _=SV.num _ _;congr 1;omega⟩
theorem z2_Q2 {G H:Prop} (k:H) (h:H→G:=by first|exact fun r=>aS r|exact fun r=>aG r|exact fun r=>aD r|exact fun r=>aH r|exact fun r=>aP_F1 r|exact fun r=>aI r|exact fun r=>aJ r|exact fun r=>aW (.qs [0,1,2,3,4,5,6,7,8,9,10] .nil) r):G:=h k
theorem width_ok (N k w n m:Nat) (f:Nat→Nat→Int) (bs tu sl:Nat→Int) (d co:Int) (ov:Prop) (hn:n≤1000) (hm:m≤1000):
  Ctr Tryz.prog 111 [.ptr 0 0] (tab N k w n m f bs tu sl d co ov) (fun r o=>o=tab N k w n m f bs tu sl d co ov∧r=i64 (n+2*m:Nat)):=by
 refine Ctr.imp ?_
 refine fI 5 Tryz.func111 ?_
 (repeat' (conv=>whnf);first|refine aC ?_ ?_<;>intro<;>try omega|refine z2_Q2 ?_|fail);all_goals try (conv=>whnf)
 exact⟨rfl,Imp.num (by push_cast;omega)⟩
theorem z3_Q2 {G H:Prop} (k:H) (h:H→G:=by first|exact fun r=>aS r|exact fun r=>aG r|exact fun r=>aD r|exact fun r=>aH r|exact fun r=>aP_F1 r|exact fun r=>aI r|exact fun r=>aJ r|exact fun r=>aW (.qs [0,1,2,3,4,5,6] (.l 7 [] (.qs [8] .nil) .no)) r):G:=h k
theorem integer_ok (N k w n m:Nat) (f:Nat→Nat→Int) (bs tu sl:Nat→Int) (d co:Int) (ov:Prop) (x y s:Int) (hv:VF (x,y)) (h1:1≤s) (h2:B62 s):
  Ctr Tryz.prog 112 [.ptr 0 0, .agg [i64 x,i64 y],i64 s] (tab N k w n m f bs tu sl d co ov) (fun r o=>∃z:Prop×Int,Cal ov z.1 (x*(s/y)) z.2∧o=tab N k w n m f bs tu sl d co z.1∧r=i64 z.2):=by
 refine Ctr.impO ?_
 refine fI 5 Tryz.func112 ?_
 obtain⟨v1,v2,v3,v4,_⟩:=hv
 dsimp only at v1 v2 v3 v4
 obtain⟨e1,e2,e3⟩:=tdiv_bd (a:=s) (b:=y) (by omega) v1
 have cM:=mul_ok N k w n m f bs tu sl d co ov x (s/y) (by omega) (by omega)
 (repeat' (conv=>whnf);first|refine aC ?_ ?_<;>intro<;>try omega|refine z3_Q2 ?_|fail);all_goals try (conv=>whnf)
 refine⟨by omega,?_⟩
 rw [e1]
 (repeat' (conv=>whnf);first|refine aC ?_ ?_<;>intro<;>try omega|refine z3_Q2 ?_|fail);all_goals try (conv=>whnf)
 refine aM [0,1,2,3,4] cM rfl rfl ?_
 rintro _ _ ⟨⟨q,v⟩,hz,rfl,rfl⟩
 dsimp only at hz⊢
 (repeat' (conv=>whnf);first|refine aC ?_ ?_<;>intro<;>try omega|refine z3_Q2 ?_|fail);all_goals try (conv=>whnf)
 exact⟨(q,v),hz,OI.refl _,Imp.refl _⟩
structure WhP (l:List F) (ov ov':Prop) (k:Int):Prop where
 k1:1≤k
 bd:B62 k
 ex:¬ov'→¬ov∧∀f∈l,f.2∣k
 one:(∀f∈l,f.2=1)→(ov'→ov)∧(¬ov'→k=1)
theorem whP_nil {ov:Prop}:WhP [] ov ov 1:=⟨by decide,by decide,fun h=>⟨h,by simp⟩,fun _=>⟨id,fun _=>rfl⟩⟩
theorem WhP.snoc {l:List F} {ov q q':Prop} {k v:Int} {f:F} (h:WhP l ov q k) (hf:1≤f.2) (c:Cal q q' (k*(f.2/(Nat.gcd k.natAbs f.2.natAbs:Nat))) v):WhP (l++[f]) ov q' (max 1 v):=by
 obtain⟨h1,h2,h3,h4⟩:=h
 obtain⟨c1,c2,c3⟩:=c
 have hg0:0<Nat.gcd k.natAbs f.2.natAbs:=Nat.gcd_pos_of_pos_right _ (by omega)
 have hgk:((Nat.gcd k.natAbs f.2.natAbs:Nat):Int)∣k:=Int.ofNat_dvd_left.2 (Nat.gcd_dvd_left _ _)
 have hgf:((Nat.gcd k.natAbs f.2.natAbs:Nat):Int)∣f.2:=Int.ofNat_dvd_left.2 (Nat.gcd_dvd_right _ _)
 generalize hG:((Nat.gcd k.natAbs f.2.natAbs:Nat):Int)=g at*
 have hg1:1≤g:=by omega
 obtain⟨d,hd⟩:=hgf
 obtain⟨k',hk'⟩:=hgk
 have hdd:f.2/g=d:=by rw [hd];exact Int.mul_ediv_cancel_left _ (by omega)
 rw [hdd]at c1 c2
 have hd1:1≤d:=by
  apply Classical.byContradiction
  intro h
  have:g*d≤0:=Int.mul_nonpos_of_nonneg_of_nonpos (by omega) (by omega)
  omega
 have hkd:1≤k*d:=by
  have:=Int.mul_pos (show 0<k by omega) (show 0<d by omega)
  omega
 refine⟨by omega,by show B62 (max 1 v);unfold B62 at*;omega,fun hq=>?_,fun ho=>?_⟩
 ·obtain⟨a1,a2⟩:=c1 hq
  obtain⟨a3,a4⟩:=h3 a1
  refine⟨a3,fun x hx=>?_⟩
  rw [a2,show max 1 (k*d)=k*d by omega]
  rcases List.mem_append.1 hx with hx|hx
  ·exact Int.dvd_trans (a4 x hx) (Int.dvd_mul_right _ _)
  ·rw [List.mem_singleton.1 hx,hd,hk']
   exact⟨k',by rw [Int.mul_assoc,Int.mul_comm k' d,←Int.mul_assoc]⟩
 ·have hf1:f.2=1:=ho f (List.mem_append_right _ (by simp))
  obtain⟨a1,a2⟩:=h4 fun x hx=>ho x (List.mem_append_left _ hx)
  have hd1':d=1:=by
   rw [hf1]at hd
   have:d∣1:=⟨g,by rw [Int.mul_comm];exact hd⟩
   have:=Int.le_of_dvd (by omega) this
   omega
  subst hd1'
  rw [Int.mul_one]at c1 c2
  exact⟨fun hq=>a1 (c2 h2 hq),fun hq=>by
   obtain⟨b1,b2⟩:=c1 hq
   rw [b2,a2 b1];rfl⟩
theorem z4_Q2 {G H:Prop} (k:H) (h:H→G:=by first|exact fun r=>aS r|exact fun r=>aG r|exact fun r=>aD r|exact fun r=>aH r|exact fun r=>aP_F1 r|exact fun r=>aI r|exact fun r=>aJ r|exact fun r=>aW (.qs [0,1,2,3,4,5,6] (.l 7 [3] (.qs [8] (.l 9 [] (.qs [10,11] .nil) .no)) .no)) r):G:=h k
theorem whole_ok (N k w n m:Nat) (f:Nat→Nat→Int) (bs tu sl:Nat→Int) (d co:Int) (ov:Prop) (l:List F) (hl:l.length≤1000000) (hv:∀f∈l,VF f):
  Ctr Tryz.prog 110 [.ptr 0 0,fsl l] (tab N k w n m f bs tu sl d co ov) (fun r o=>∃x:Prop×Int,WhP l ov x.1 x.2∧o=tab N k w n m f bs tu sl d co x.1∧r=i64 x.2):=by
 refine Ctr.impO ?_
 refine fI 5 Tryz.func110 ?_
 have hll:=fr_len l
 (repeat' (conv=>whnf);first|refine aC ?_ ?_<;>intro<;>try omega|refine z4_Q2 ?_|fail);all_goals try (conv=>whnf)
 refine LoopOb.mk (Y:=Nat×Prop×Int) (st:=fun y=>⟨[(10,i64 y.1),(9,i64 l.length),(8,fsl l),(5,i64 y.2.2),(0, .ptr 0 0)],tab N k w n m f bs tu sl d co y.2.1⟩)
  (inv:=fun y=>y.1≤l.length∧WhP (l.take y.1) ov y.2.1 y.2.2) (fun y=>l.length-y.1) (0,ov,1) [0,1,2,3,4] ⟨by simp,whP_nil⟩ (by rw [hll];(exact aL)) ?_
 rintro⟨i,q,s⟩ ⟨hi,hW⟩
 dsimp only at hi hW⊢
 (repeat' (conv=>whnf);first|refine z4_Q2 ?_|fail);all_goals try (conv=>whnf)
 refine CondOb.mk (fun hlt=>?_) (fun hlt=>?_)
 ·have hil:i<l.length:=by omega
  have hg:=fr_get (l:=l) hil
  have hmem:l.getD i (0,1)∈l:=by rw [List.getD_eq_getElem?_getD,List.getElem?_eq_getElem hil];exact List.getElem_mem _
  have vf:=hv _ hmem
  have htk:l.take (i+1)=l.take i++[l.getD i (0,1)]:=by rw [List.take_succ_eq_append_getElem hil,List.getD_eq_getElem?_getD,List.getElem?_eq_getElem hil];rfl
  generalize l.getD i (0,1)=x at*
  obtain⟨x,y⟩:=x
  obtain⟨v1,v2,_⟩:=id vf
  dsimp only at v1 v2 hg
  obtain⟨k1,kb,_,_⟩:=id hW
  have hW':=fun q' v=>WhP.snoc (q':=q') (v:=v) (f:=(x,y)) hW v1
  have cG:=sgcd_ok s y kb (by omega)
  have hg0:0<Nat.gcd s.natAbs y.natAbs:=Nat.gcd_pos_of_pos_right _ (by omega)
  have hgl:Nat.gcd s.natAbs y.natAbs≤y.natAbs:=Nat.gcd_le_right _ (by omega)
  dsimp only at hW'
  generalize hG:Nat.gcd s.natAbs y.natAbs=g at*
  obtain⟨e1,e2,e3⟩:=tdiv_bd (a:=y) (b:=(g:Int)) (by omega) (by omega)
  have cM:=mul_ok N k w n m f bs tu sl d co q s (y/g) kb (by omega)
  (repeat' (conv=>whnf);first|refine⟨i,_,rfl,hg,?_⟩|refine aC ?_ ?_<;>intro<;>try omega|refine z4_Q2 ?_|(refine aK [] cG ?_)|fail);all_goals try (conv=>whnf)
  refine⟨by omega,?_⟩
  rw [e1]
  (repeat' (conv=>whnf);first|refine aC ?_ ?_<;>intro<;>try omega|refine z4_Q2 ?_|fail);all_goals try (conv=>whnf)
  refine aM [0,1,2,3,4] cM rfl rfl ?_
  rintro _ _ ⟨⟨q',v⟩,hz,rfl,rfl⟩
  dsimp only at hz⊢
  have:=hW' q' v hz
  (repeat' (conv=>whnf);first|refine aC ?_ ?_<;>intro<;>try omega|refine z4_Q2 ?_|fail);all_goals try (conv=>whnf)
  exact⟨(i+1,q',max 1 v),[0,1,2,3,4],⟨by dsimp only;omega,by dsimp only;rw [htk];exact this⟩,by dsimp only;omega,by(exact aL)⟩
 ·have e:i=l.length:=by omega
  subst e
  rw [List.take_length]at hW
  (repeat' (conv=>whnf);first|refine aC ?_ ?_<;>intro<;>try omega|refine z4_Q2 ?_|fail);all_goals try (conv=>whnf)
  exact⟨(q,s),hW,OI.refl _,Imp.refl _⟩
end
end Go.Proofs.YtbcjojomkibgeaaGreat
