/- Lemmas of this seat. Conditions: as stated. -/
import Derived.Test.YtbcjojomkibgeaaGreatQ9
set_option linter.unusedVariables false
set_option linter.unusedSimpArgs false
set_option maxHeartbeats 2000000
set_option maxRecDepth 4000
namespace Go.Proofs.YtbcjojomkibgeaaGreat
open Go.Sx Go.Fq Go.Dt
theorem fr2_put {l:List F} {i:Nat} {a b:Int}:(fr2 l).set i [i64 a,i64 b]=fr2 (l.set i (a,b)):=by simp [fr2,List.map_set]
theorem fr2_rep {n:Nat}:fr2 (List.replicate n (0,0))=List.replicate n [i64 0,i64 0]:=by simp [fr2]
def ptv (E:Nat) (f:Nat→Nat→Int) (bs:Nat→Int) (d:Int):Nat→Nat→Rat
 |0,_=>0
 |i+1,k=>if bs i=k then Rat.divInt (f i E) d else ptv E f bs d i k
def PtV (n E:Nat) (f:Nat→Nat→Int) (bs:Nat→Int) (d:Int) (i:Nat) (X:List F):Prop:=∀k<n,VF (X.getD k (0,1))∧val (X.getD k (0,1))=ptv E f bs d i k
theorem getD_set {l:List F} {b k:Nat} {x y:F} (hb:b<l.length):(l.set b x).getD k y=if b=k then x else l.getD k y:=by
 rw [List.getD_eq_getElem?_getD,List.getElem?_set]
 by_cases e:b=k
 ·rw [if_pos e,if_pos e,if_pos hb];rfl
 ·rw [if_neg e,if_neg e,List.getD_eq_getElem?_getD]
theorem PtV.zero {n E:Nat} {f:Nat→Nat→Int} {bs:Nat→Int} {d:Int} {X:List F} (h:∀k<n,X.getD k (0,1)=(0,1)):PtV n E f bs d 0 X:=fun k hk=>by
 rw [h k hk];exact⟨vf_01,by unfold ptv val;simp⟩
theorem PtV.skip {n E:Nat} {f:Nat→Nat→Int} {bs:Nat→Int} {d:Int} {i b:Nat} {X:List F} (h:PtV n E f bs d i X) (hb:bs i=b) (hn:¬b<n):PtV n E f bs d (i+1) X:=fun k hk=>by
 unfold ptv;rw [if_neg (by omega)];exact h k hk
theorem PtV.put {n E:Nat} {f:Nat→Nat→Int} {bs:Nat→Int} {d:Int} {i b:Nat} {X:List F} {x:F} (h:PtV n E f bs d i X) (hl:X.length=n) (hb:bs i=b) (hn:b<n) (hx:VF x∧val x=Rat.divInt (f i E) d):PtV n E f bs d (i+1) (X.set b x):=fun k hk=>by
 rw [getD_set (by omega)]
 unfold ptv
 by_cases e:b=k
 ·rw [if_pos e,if_pos (by omega)];exact hx
 ·rw [if_neg e,if_neg (by omega)];exact h k hk
theorem z2_Qa {G H:Prop} (k:H) (h:H→G:=by first|exact fun r=>aS r|exact fun r=>aG r|exact fun r=>aD r|exact fun r=>aP_Q5 r|exact fun r=>aI r|exact fun r=>aJ r|exact fun r=>aW (.qs [0,1,2,3,4,5,6,7,8,9,10,14,15,16,17] (.l 11 [17,9,6] (.qs [12,13] (.l 18 [] (.qs [19] (.l 20 [] .nil .no)) .no)) .no)) r):G:=h k
theorem z1_Qa {G H:Prop} (k:H) (h:H→G:=by first|exact fun r=>aS r|exact fun r=>aG r|exact fun r=>aD r|exact fun r=>aH r|exact fun r=>aP_Q5 r|exact fun r=>aI r|exact fun r=>aJ r|exact fun r=>aW (.qs [0,1,2,3,4,5,6,7,8,9,10,14,15,16,17] (.l 11 [17,9,6] (.qs [12,13] (.l 18 [] (.qs [19] (.l 20 [] .nil .no)) .no)) .no)) r):G:=h k
theorem spoint_ok (n m:Nat) (f:Nat→Nat→Int) (bs tu sl:Nat→Int) (d co:Int) (ov:Prop) (hm:m≤100) (hn:n≤100) (hd:1≤d∧B62 d) (hf:∀a<m,B62 (f a (n+2*m))) (hb:∀i<m,0≤bs i∧bs i<(n+2*m:Nat)):
  Ctr Tryz.prog 117 [.ptr 0 0] (tab (m+1) m (n+2*m+1) n m f bs tu sl d co ov)
   (fun r o=>∃x:Prop×List F,((¬x.1→¬ov∧x.2.length=n∧PtV n (n+2*m) f bs d m x.2)∧((∀i<m,bs i<n→(fnew (f i (n+2*m)) d).2.2 =0)→x.1→ov))∧o=tab (m+1) m (n+2*m+1) n m f bs tu sl d co x.1∧r=fsl x.2):=by
 refine Ctr.impO ?_
 refine fI 5 Tryz.func117 ?_
 have hml:=mts_len (m+1) (n+2*m+1) f
 (repeat' (conv=>whnf);first|refine aC ?_ ?_<;>intro<;>try omega|refine z1_Qa ?_|refine⟨n,n,rfl,rfl,Nat.le_refl _,⟨by simp only;omega,by omega⟩,?_⟩|fail);all_goals try (conv=>whnf)
 refine LoopOb.mk (Y:=Nat×List F) (st:=fun y=>⟨[(14,i64 y.1),(13,i64 n),(3, .vec 5),(0, .ptr 0 0)],tab (m+1) m (n+2*m+1) n m f bs tu sl d co ov++[.vec 2 (fr2 y.2)]⟩)
  (inv:=fun y=>y.1≤n∧y.2.length=n∧∀k<y.1,y.2.getD k (0,1)=(0,1)) (fun y=>n-y.1) (0,List.replicate n (0,0)) [0,1,2,3,4,6] ⟨by simp,by simp,fun k hk=>absurd hk (by simp)⟩ (by dsimp only;rw [fr2_rep,List.length_replicate];(exact aL)) ?_
 rintro⟨j,l⟩ ⟨hj,hl,h01⟩
 dsimp only at hj hl h01⊢
 have hll:=fr_len l
 (repeat' (conv=>whnf);first|refine z1_Qa ?_|fail);all_goals try (conv=>whnf)
 refine CondOb.mk (fun hlt=>?_) (fun hlt=>?_)
 ·(repeat' (conv=>whnf);first|refine aC ?_ ?_<;>intro<;>try omega|refine z1_Qa ?_|refine⟨_,rfl,(by rw [fr_len];omega),?_⟩|refine⟨_,fr_get (by omega),?_⟩|fail);all_goals try (conv=>whnf)
  exact⟨(j+1,l.set j (0,1)),[0,1,2,3,4,5],⟨by dsimp only;omega,by simp [hl],fun k hk=>by dsimp only at hk⊢;rw [getD_set (by omega)];split<;>first|rfl|exact h01 k (by omega)⟩,by dsimp only;omega,by dsimp only;rw [←fr2_put];(exact aL)⟩
 (repeat' (conv=>whnf);first|refine aC ?_ ?_<;>intro<;>try omega|refine z1_Qa ?_|fail);all_goals try (conv=>whnf)
 refine LoopOb.mk (Y:=Nat×Prop×List F) (st:=fun y=>⟨[(27,i64 y.1),(26,i64 m),(25, .vec 2),(3, .vec 5),(0, .ptr 0 0)],tab (m+1) m (n+2*m+1) n m f bs tu sl d co y.2.1++[.vec 2 (fr2 y.2.2)]⟩)
  (inv:=fun y=>y.1≤m∧y.2.2.length=n∧(¬y.2.1→¬ov∧PtV n (n+2*m) f bs d y.1 y.2.2)∧((∀i<m,bs i<n→(fnew (f i (n+2*m)) d).2.2 =0)→y.2.1→ov)) (fun y=>m-y.1) (0,ov,l) [0,1,2,3,4,5] ⟨by simp,hl,fun h=>⟨h,PtV.zero fun k hk=>h01 k (by omega)⟩,fun _ h=>h⟩ (by rw [vcs_len];(exact aL)) ?_
 clear hl hll hj hlt h01
 rintro⟨i,q,l⟩ ⟨hi,hl,hq1,hq2⟩
 dsimp only at hi hl hq1 hq2⊢
 have hll:=fr_len l
 (repeat' (conv=>whnf);first|refine z1_Qa ?_|fail);all_goals try (conv=>whnf)
 refine CondOb.mk (fun hlt=>?_) (fun hlt=>?_)
 ·have him:i<m:=by omega
  have hbi:=hb i him
  obtain⟨b,hbb⟩:∃b:Nat,bs i=b:=⟨(bs i).toNat,by omega⟩
  have hgb:(vcs m bs)[i]? =some [i64 b]:=by rw [vcs_get him,hbb]
  have cW:=width_ok (m+1) m (n+2*m+1) n m f bs tu sl d co q (by omega) (by omega)
  have cF:=sfrac_ok (m+1) m (n+2*m+1) n m f bs tu sl d co q (f i (n+2*m)) d (hf i him) hd.2
  (repeat' (conv=>whnf);first|refine DrawOb.re [] (.qs [0,1,2,3,4,5,6,7,8,9,10,14,15,16,17] (.l 11 [17,9,6] (.qs [12,13] (.l 18 [] (.qs [19] (.l 20 [] .nil .no)) .no)) .no)) (by decide+kernel) ?_|refine⟨i,_,rfl,hgb,?_⟩|refine aC ?_ ?_<;>intro<;>try omega|refine z1_Qa ?_|refine And.intro ⟨rfl,rfl⟩ ?_|refine⟨_,rfl,(by simp only [mts_len,vcs_len];omega),?_⟩|refine And.intro (by simp only [mts_len,vcs_len];omega) ?_|refine⟨_,_,rfl,mts_get (by omega),(by simp only [vcs_len];omega),?_⟩|refine⟨_,_,mts_get (by omega),vcs_get (by omega),?_⟩|refine⟨_,mts_get (by omega),?_⟩|refine⟨_,vcs_get (by omega),?_⟩|refine⟨_,_,rfl,vcs_get (by omega),?_⟩|refine⟨n+m+i,_,(by omega),mts_get (by omega),(by simp only [vcs_len];omega),?_⟩|(refine aK [0,1,2,3,4] cW ?_)|fail);all_goals try (conv=>whnf)
  rotate_left
  ·exact⟨(i+1,q,l),[0,1,2,3,4,5],⟨by dsimp only;omega,hl,fun h=>⟨(hq1 h).1,(hq1 h).2.skip hbb (by omega)⟩,hq2⟩,by dsimp only;omega,by(exact aL)⟩
  have hlb:bs i<n:=by assumption
  refine aM [0,1,2,3,4] cF rfl rfl ?_
  rintro _ _ ⟨⟨q1,x⟩,z,rfl,rfl⟩
  dsimp only at z⊢
  (repeat' (conv=>whnf);first|refine aC ?_ ?_<;>intro<;>try omega|refine z1_Qa ?_|refine⟨b,hbb,(by rw [fr_len];omega),?_⟩|refine⟨_,fr_get (by omega),?_⟩|refine And.intro ⟨rfl,rfl⟩ ?_|refine⟨_,rfl,(by simp only [mts_len,vcs_len];omega),?_⟩|refine And.intro (by simp only [mts_len,vcs_len];omega) ?_|refine⟨_,_,rfl,mts_get (by omega),(by simp only [vcs_len];omega),?_⟩|refine⟨_,_,mts_get (by omega),vcs_get (by omega),?_⟩|refine⟨_,mts_get (by omega),?_⟩|refine⟨_,vcs_get (by omega),?_⟩|refine⟨_,_,rfl,vcs_get (by omega),?_⟩|refine⟨n+m+i,_,(by omega),mts_get (by omega),(by simp only [vcs_len];omega),?_⟩|fail);all_goals try (conv=>whnf)
  exact⟨(i+1,q1,l.set b (x.1,x.2)),[0,1,2,3,4,5],⟨by dsimp only;omega,by simp [hl],fun h=>⟨(hq1 (z.ex h).1).1,(hq1 (z.ex h).1).2.put hl hbb (by omega) (z.ex h).2⟩,fun D h=>hq2 D (z.fit (by omega) (D i him hlb) h)⟩,by dsimp only;omega,by dsimp only;rw [←fr2_put];(exact aL)⟩
 ·have e:i=m:=by omega
  subst e
  (repeat' (conv=>whnf);first|refine aC ?_ ?_<;>intro _|refine z2_Qa ?_|fail);all_goals try (conv=>whnf)
  refine .mk [.fz 5] ?_
  (conv=>whnf)
  exact⟨(q,l),⟨fun h=>⟨(hq1 h).1,hl,(hq1 h).2⟩,hq2⟩,OI.refl _,Imp.refl _⟩
end Go.Proofs.YtbcjojomkibgeaaGreat
