/- Lemmas of this seat. Conditions: as stated. -/
import Derived.Test.YtbcjojomkibgeaaGreatQy
import Derived.Test.YtbcjojomkibgeaaGreatN7
import Derived.Test.YtbcjojomkibgeaaGreatF1
set_option linter.unusedVariables false
set_option linter.unusedSimpArgs false
set_option maxHeartbeats 2000000
set_option maxRecDepth 4000
namespace Go.Proofs.YtbcjojomkibgeaaGreat
open Go.Sx Go.Np Go.Cv
theorem Contract_ok (L:List Int) (k:Nat) (hL:L.length≤2000) (hk:k≤2000):Ctr Tryz.prog 68 [.ptr 0 0] [src L k] (fun r o=>∃x:(Int×Nat×Int)×Nat,((4≤x.1.1∧x.1.1≤16)∧(1≤x.1.2.1∧x.1.2.1≤12)∧(0≤x.1.2.2∧x.1.2.2≤3)∧x.2≤2000)∧o=[src L x.2]∧r=crv (stv x.1.1 x.1.2.1) x.1.2.1 x.1.2.2):=by
 refine fI 1 Tryz.func68 ?_
 (repeat' (conv=>whnf);first|refine LitOb.ful ?_|refine aC ?_ ?_<;>intro<;>try omega|refine z1_Ks ?_|fail);all_goals try (conv=>whnf)
 refine aM [0] (Range_ok L k hL hk 4 16 (by omega) (by omega) (by omega)) rfl rfl ?_
 rintro _ _ ⟨⟨b,k1⟩,⟨b1,b2,hk1⟩,rfl,rfl⟩
 dsimp only at b1 b2 hk1⊢
 (repeat' (conv=>whnf);first|refine LitOb.ful ?_|refine aC ?_ ?_<;>intro<;>try omega|refine z1_Ks ?_|fail);all_goals try (conv=>whnf)
 refine CallOb.mk [0] (Pick_ok L k1 hL hk1 [1,2,3,4,6,12] (by decide) (by decide)) rfl ⟨Imp.refl _,Imp.fulp rfl,trivial⟩ rfl rfl ?_
 rintro _ _ ⟨⟨p,k2⟩,⟨p1,hk2⟩,rfl,rfl⟩
 dsimp only at p1 hk2⊢
 have hp:1≤p∧p≤12:=by simp only [List.mem_cons,List.not_mem_nil,or_false]at p1;omega
 obtain⟨p,rfl⟩:∃n:Nat,p=n:=⟨p.toNat,by omega⟩
 (repeat' (conv=>whnf);first|refine aC ?_ ?_<;>intro<;>try omega|refine z1_Ks ?_|fail);all_goals try (conv=>whnf)
 refine aM [0] (N_ok L k2 hL hk2 4 (by omega) (by omega)) rfl rfl ?_
 rintro _ _ ⟨⟨q,k3⟩,⟨q1,q2,hk3⟩,rfl,rfl⟩
 dsimp only at q1 q2 hk3⊢
 (repeat' (conv=>whnf);first|refine aC ?_ ?_<;>intro<;>try omega|refine z1_Ks ?_|(refine aK [] (Stair_ok b p q (by omega)) ?_)|fail);all_goals try (conv=>whnf)
 exact⟨((b,p,q),k3),⟨⟨b1,b2⟩,⟨by dsimp only;omega,by dsimp only;omega⟩,⟨q1,by dsimp only;omega⟩,hk3⟩,rfl,rfl⟩
structure PortG (c:Nat) (l:Ln):Prop where
 e:lnErr l=0
 n:l.n=c
 c4:l.c≤24
theorem mem_app_in {l:List Int} {x a b:Int} (h:inR l a b) (h1:a≤x) (h2:x≤b):inR (l++[x]) a b:=by
 intro y hy
 rcases List.mem_append.1 hy with hy|hy
 ·exact h y hy
 ·rw [List.mem_singleton.1 hy];exact⟨h1,h2⟩
theorem lnA {k b c:Int} (hk:k=1∨k=2) (hb:1≤b∧b≤4000) (hc:1≤c∧c≤6):lnErr ⟨k,b,c,[],[]⟩=0:=by
 unfold lnErr lsErr
 dsimp only
 rw [if_neg (by omega),if_neg (by omega),if_neg (by omega),if_neg (by simp)]
theorem lnB {k b c:Int} {w:List Int} (hk:k=3∧inR w 1 20∨k=4∧inR w 1 6000) (hb:1≤b∧b≤4000) (hc:1≤c∧c≤6) (hw:(w.length:Int)=c):lnErr ⟨k,b,c,w,[]⟩=0:=by
 unfold lnErr lsErr
 dsimp only
 rw [if_neg (by omega),if_neg (by omega),if_neg (by rintro(⟨h1,h2⟩|⟨h1,h2⟩|⟨h1,h2⟩)<;>rcases hk with⟨h3,h4⟩|⟨h3,h4⟩<;>first|omega|exact h2 ⟨hw,h4⟩),if_neg (by simp;omega)]
theorem lnC {b c:Int} {s:List Int} (hb:1≤b∧b≤4000) (hc:1≤c∧c≤6) (hs:1≤s.length∧s.length≤40) (hr:inR s (-1) (c-1)):lnErr ⟨5,b,c,[],s⟩=0:=by
 unfold lnErr lsErr
 dsimp only
 rw [if_neg (by omega),if_neg (by omega),if_neg (by rintro(⟨h1,h2⟩|⟨h1,h2⟩|⟨h1,h2⟩)<;>first|omega|exact h2 ⟨hs.1,hs.2,hr⟩),if_neg (by simp)]
theorem inR_nil {a b:Int}:inR [] a b:=by simp [inR]
theorem z4_N13 {G H:Prop} (k:H) (h:H→G:=by first|exact fun r=>aS r|exact fun r=>aG r|exact fun r=>aD r|exact fun r=>aP_Ks r|exact fun r=>aI r|exact fun r=>aJ r|exact fun r=>aW (.qs [0,1,2,3,4] (.l 5 [1] (.l 6 [1] (.l 7 [] (.qs [8] (.l 9 [] .nil .no)) .no) .no) .no)) r|exact fun r=>aW (.qs [0,1,2] (.l 3 [1] (.l 4 [1] (.l 5 [] (.qs [6] (.l 7 [] .nil .no)) .no) .no) .no)) r|exact fun r=>aW (.qs [0,1,2] (.l 3 [1] (.l 4 [1] (.l 5 [] (.qs [6] (.l 7 [] .nil .no)) .no) .no) .no)) r):G:=h k
theorem z3_N13 {G H:Prop} (k:H) (h:H→G:=by first|exact fun r=>aS r|exact fun r=>aG r|exact fun r=>aH r|exact fun r=>aP_Ks r|exact fun r=>aI r|exact fun r=>aJ r|exact fun r=>aW (.qs [0,1,2,3,4] (.l 5 [1] (.l 6 [1] (.l 7 [] (.qs [8] (.l 9 [] .nil .no)) .no) .no) .no)) r|exact fun r=>aW (.qs [0,1,2] (.l 3 [1] (.l 4 [1] (.l 5 [] (.qs [6] (.l 7 [] .nil .no)) .no) .no) .no)) r|exact fun r=>aW (.qs [0,1,2] (.l 3 [1] (.l 4 [1] (.l 5 [] (.qs [6] (.l 7 [] .nil .no)) .no) .no) .no)) r):G:=h k
theorem z2_N13 {G H:Prop} (k:H) (h:H→G:=by first|exact fun r=>aS r|exact fun r=>aG r|exact fun r=>aD r|exact fun r=>aH r|exact fun r=>aP_Ks r|exact fun r=>aI r|exact fun r=>aJ r|exact fun r=>aW (.qs [0,1,2,3,4] (.l 5 [1] (.l 6 [1] (.l 7 [] (.qs [8] (.l 9 [] .nil .no)) .no) .no) .no)) r|exact fun r=>aW (.qs [0,1,2] (.l 3 [1] (.l 4 [1] (.l 5 [] (.qs [6] (.l 7 [] .nil .no)) .no) .no) .no)) r|exact fun r=>aW (.qs [0,1,2] (.l 3 [1] (.l 4 [1] (.l 5 [] (.qs [6] (.l 7 [] .nil .no)) .no) .no) .no)) r):G:=h k
theorem Port_ok (L:List Int) (k:Nat) (hL:L.length≤2000) (hk:k≤2000) (c:Nat) (hc:1≤c∧c≤2):Ctr Tryz.prog 30 [.ptr 0 0,i64 c] [src L k] (fun r o=>∃x:Ln×Nat,(PortG c x.1∧x.1.w.length≤2∧x.1.s.length≤4∧x.2≤2000)∧o=[src L x.2]∧r=lv x.1):=by
 refine Ctr.impE ?_
 refine fI 1 Tryz.func30 ?_
 (repeat' (conv=>whnf);first|refine aC ?_ ?_<;>intro<;>try omega|refine z2_N13 ?_|fail);all_goals try (conv=>whnf)
 refine aM [0] (Range_ok L k hL hk 4 24 (by omega) (by omega) (by omega)) rfl rfl ?_
 rintro _ _ ⟨⟨b,k1⟩,⟨b1,b2,hk1⟩,rfl,rfl⟩
 dsimp only at b1 b2 hk1⊢
 (repeat' (conv=>whnf);first|refine aC ?_ ?_<;>intro<;>try omega|refine z3_N13 ?_|fail);all_goals try (conv=>whnf)
 refine CutOb.cut (Y:=Nat) (st:=fun y=>⟨[(5, .ptr 2 0),(4, .ptr 1 0),(0, .ptr 0 0),(1,i64 c)],[src L y, .box [i64 0,i64 0,i64 0, .nil, .nil], .box [i64 1,i64 b,i64 c, .nil, .nil]]⟩) (inv:=fun y=>y≤2000) ?_ ?_
 ·(repeat' (conv=>whnf);first|refine aC ?_ ?_<;>intro<;>try omega|refine z2_N13 ?_|(refine aM [0] (N_ok _ k1 hL hk1 3 (by omega) (by omega)) rfl rfl ?_;rintro _ _ ⟨⟨n,k2⟩,⟨n1,n2,hk2⟩,rfl,rfl⟩;dsimp only at n1 n2 hk2⊢)|fail);all_goals try (conv=>whnf)
  ·exact⟨(⟨1,b,c,[],[]⟩,k2),⟨⟨lnA (.inl rfl) (by omega) (by omega),rfl,by dsimp only;omega⟩,by simp,by simp,hk2⟩,rfl,Imp.agg ⟨Imp.refl _,Imp.refl _,Imp.refl _,Imp.nil _,Imp.nil _,trivial⟩⟩
  ·exact⟨k2,[0,1,2],hk2,by(exact aL)⟩
  ·exact⟨k1,[0,1,2],hk1,by(exact aL)⟩
 clear hk1 k1 hk k
 intro k hk
 (repeat' (conv=>whnf);first|refine aC ?_ ?_<;>intro<;>try omega|refine z2_N13 ?_|fail);all_goals try (conv=>whnf)
 refine aM [0] (N_ok _ k hL hk 4 (by omega) (by omega)) rfl rfl ?_
 rintro _ _ ⟨⟨n,k2⟩,⟨n1,n2,hk2⟩,rfl,rfl⟩
 dsimp only at n1 n2 hk2⊢
 (repeat' (conv=>whnf);first|refine aC ?_ ?_<;>intro<;>try omega|refine z4_N13 ?_|fail);all_goals try (conv=>whnf)
 ·refine .mk [] ?_
  exact⟨(⟨2,b,c,[],[]⟩,k2),⟨⟨lnA (.inr rfl) (by omega) (by omega),rfl,by dsimp only;omega⟩,by simp,by simp,hk2⟩,rfl,Imp.agg ⟨Imp.refl _,Imp.refl _,Imp.refl _,Imp.nil _,Imp.nil _,trivial⟩⟩
 ·refine .mk [.nb 2 3 1] ?_
  refine LoopOb.mk (Y:=List Int×Nat) (st:=fun y=>⟨[(6,i64 y.1.length),(5, .ptr 2 0),(4, .ptr 1 0),(0, .ptr 0 0),(1,i64 c)],[src L y.2, .box [i64 0,i64 0,i64 0, .nil, .nil], .box [i64 3,i64 b,i64 c, .vec 3, .nil], .vec 1 (ints y.1)]⟩)
   (inv:=fun y=>y.1.length≤c∧inR y.1 1 3∧y.2≤2000) (fun y=>c-y.1.length) ([],k2) [0,1,2,3] ⟨by simp,inR_nil,hk2⟩ (by(exact aL)) ?_
  rintro⟨w,k⟩ ⟨w1,w2,hk⟩
  dsimp only at w1 w2 hk⊢
  have hwl:=ints_len w
  (repeat' (conv=>whnf);first|refine z2_N13 ?_|fail);all_goals try (conv=>whnf)
  refine CondOb.mk (fun hlt=>?_) (fun hlt=>?_)
  ·(repeat' (conv=>whnf);first|refine aC ?_ ?_<;>intro<;>try omega|refine z2_N13 ?_|(refine aM [0] (Range_ok L k hL hk 1 3 (by omega) (by omega) (by omega)) rfl rfl ?_;rintro _ _ ⟨⟨v,k3⟩,⟨v1,v2,hk3⟩,rfl,rfl⟩;dsimp only at v1 v2 hk3⊢)|fail);all_goals try (conv=>whnf)
   exact⟨(w++[v],k3),[0,1,2,5],⟨by simp only [List.length_append,List.length_singleton];omega,mem_app_in w2 v1 v2,hk3⟩,by simp only [List.length_append,List.length_singleton];omega,by dsimp only;rw [ints_app,List.length_append,List.length_singleton];(exact aL)⟩
  ·(repeat' (conv=>whnf);first|refine aC ?_ ?_<;>intro _|refine z4_N13 ?_|fail);all_goals try (conv=>whnf)
   refine .mk [.fz 3] ?_
   (repeat' (conv=>whnf);first|refine aC ?_ ?_<;>intro _|refine z2_N13 ?_|fail);all_goals try (conv=>whnf)
   exact⟨(⟨3,b,c,w,[]⟩,k),⟨⟨lnB (by first|exact .inl ⟨rfl,fun x hx=>by have:=w2 x hx;omega⟩|exact .inr ⟨rfl,fun x hx=>by have:=w2 x hx;omega⟩) (by omega) (by omega) (by omega),rfl,by dsimp only;omega⟩,by dsimp only;omega,by simp,hk⟩,rfl,Imp.agg ⟨Imp.refl _,Imp.refl _,Imp.refl _,Imp.refl _,Imp.nil _,trivial⟩⟩
 ·refine .mk [.nb 2 3 1] ?_
  refine LoopOb.mk (Y:=List Int×Nat) (st:=fun y=>⟨[(7,i64 y.1.length),(5, .ptr 2 0),(4, .ptr 1 0),(0, .ptr 0 0),(1,i64 c)],[src L y.2, .box [i64 0,i64 0,i64 0, .nil, .nil], .box [i64 4,i64 b,i64 c, .vec 3, .nil], .vec 1 (ints y.1)]⟩)
   (inv:=fun y=>y.1.length≤c∧inR y.1 8 20∧y.2≤2000) (fun y=>c-y.1.length) ([],k2) [0,1,2,3] ⟨by simp,inR_nil,hk2⟩ (by(exact aL)) ?_
  rintro⟨w,k⟩ ⟨w1,w2,hk⟩
  dsimp only at w1 w2 hk⊢
  have hwl:=ints_len w
  (repeat' (conv=>whnf);first|refine z2_N13 ?_|fail);all_goals try (conv=>whnf)
  refine CondOb.mk (fun hlt=>?_) (fun hlt=>?_)
  ·(repeat' (conv=>whnf);first|refine aC ?_ ?_<;>intro<;>try omega|refine z2_N13 ?_|(refine aM [0] (Range_ok L k hL hk 8 20 (by omega) (by omega) (by omega)) rfl rfl ?_;rintro _ _ ⟨⟨v,k3⟩,⟨v1,v2,hk3⟩,rfl,rfl⟩;dsimp only at v1 v2 hk3⊢)|fail);all_goals try (conv=>whnf)
   exact⟨(w++[v],k3),[0,1,2,5],⟨by simp only [List.length_append,List.length_singleton];omega,mem_app_in w2 v1 v2,hk3⟩,by simp only [List.length_append,List.length_singleton];omega,by dsimp only;rw [ints_app,List.length_append,List.length_singleton];(exact aL)⟩
  ·(repeat' (conv=>whnf);first|refine aC ?_ ?_<;>intro _|refine z4_N13 ?_|fail);all_goals try (conv=>whnf)
   refine .mk [.fz 3] ?_
   (repeat' (conv=>whnf);first|refine aC ?_ ?_<;>intro _|refine z2_N13 ?_|fail);all_goals try (conv=>whnf)
   exact⟨(⟨4,b,c,w,[]⟩,k),⟨⟨lnB (by first|exact .inl ⟨rfl,fun x hx=>by have:=w2 x hx;omega⟩|exact .inr ⟨rfl,fun x hx=>by have:=w2 x hx;omega⟩) (by omega) (by omega) (by omega),rfl,by dsimp only;omega⟩,by dsimp only;omega,by simp,hk⟩,rfl,Imp.agg ⟨Imp.refl _,Imp.refl _,Imp.refl _,Imp.refl _,Imp.nil _,trivial⟩⟩
 ·refine .mk [.nb 2 4 1] ?_
  refine LoopOb.mk (Y:=List Int) (st:=fun y=>⟨[(8,i64 y.length),(5, .ptr 2 0),(4, .ptr 1 0),(0, .ptr 0 0),(1,i64 c)],[src L k2, .box [i64 0,i64 0,i64 0, .nil, .nil], .box [i64 5,i64 b,i64 c, .nil, .vec 3], .vec 1 (ints y)]⟩)
   (inv:=fun y=>y.length≤c∧inR y (-1) (c-1)) (fun y=>c-y.length) [] [0,1,2,3] ⟨by simp,inR_nil⟩ (by(exact aL)) ?_
  rintro w ⟨w1,w2⟩
  have hwl:=ints_len w
  (repeat' (conv=>whnf);first|refine z2_N13 ?_|fail);all_goals try (conv=>whnf)
  refine CondOb.mk (fun hlt=>?_) (fun hlt=>?_)
  ·(repeat' (conv=>whnf);first|refine aC ?_ ?_<;>intro<;>try omega|refine z2_N13 ?_|fail);all_goals try (conv=>whnf)
   exact⟨w++[(w.length:Int)],[0,1,2,5],⟨by simp only [List.length_append,List.length_singleton];omega,mem_app_in w2 (by omega) (by omega)⟩,by simp only [List.length_append,List.length_singleton];omega,by dsimp only;rw [ints_app,List.length_append,List.length_singleton];(exact aL)⟩
  have wc:(w.length:Int)=c:=by omega
  (repeat' (conv=>whnf);first|refine aC ?_ ?_<;>intro<;>try omega|refine z2_N13 ?_|fail);all_goals try (conv=>whnf)
  refine aM [0] (N_ok L k2 hL hk2 3 (by omega) (by omega)) rfl rfl ?_
  rintro _ _ ⟨⟨n,k3⟩,⟨n1,n2,hk3⟩,rfl,rfl⟩
  dsimp only at n1 n2 hk3⊢
  (repeat' (conv=>whnf);first|refine aC ?_ ?_<;>intro<;>try omega|refine z2_N13 ?_|fail);all_goals try (conv=>whnf)
  refine LoopOb.mk (Y:=Int×List Int×Nat) (st:=fun y=>⟨[(9,i64 y.1),(5, .ptr 2 0),(4, .ptr 1 0),(0, .ptr 0 0),(1,i64 c)],[src L y.2.2, .box [i64 0,i64 0,i64 0, .nil, .nil], .box [i64 5,i64 b,i64 c, .nil, .vec 3], .vec 1 (ints y.2.1)]⟩)
   (inv:=fun y=>0≤y.1∧y.1+y.2.1.length≤4∧1≤y.2.1.length∧inR y.2.1 (-1) (c-1)∧y.2.2≤2000) (fun y=>y.1.toNat) (n,w,k3) [0,1,2,3] ⟨n1,by dsimp only;omega,by dsimp only;omega,w2,hk3⟩ (by(exact aL)) ?_
  clear w1 w2 wc hlt hwl w hk3 k3
  rintro⟨j,w,k⟩ ⟨j1,j2,j3,w2,hk⟩
  dsimp only at j1 j2 j3 w2 hk⊢
  have hwl:=ints_len w
  (repeat' (conv=>whnf);first|refine z2_N13 ?_|fail);all_goals try (conv=>whnf)
  refine CondOb.mk (fun hlt=>?_) (fun hlt=>?_)
  ·(repeat' (conv=>whnf);first|refine aC ?_ ?_<;>intro<;>try omega|refine z2_N13 ?_|(refine aM [0] (Range_ok L k hL hk (-1) (c-1) (by omega) (by omega) (by omega)) rfl rfl ?_;rintro _ _ ⟨⟨v,k3⟩,⟨v1,v2,hk3⟩,rfl,rfl⟩;dsimp only at v1 v2 hk3⊢)|fail);all_goals try (conv=>whnf)
   exact⟨(j-1,w++[v],k3),[0,1,2,5],⟨by dsimp only;omega,by simp only [List.length_append,List.length_singleton];omega,by simp only [List.length_append,List.length_singleton];omega,mem_app_in w2 v1 v2,hk3⟩,by dsimp only;omega,by dsimp only;rw [ints_app];(exact aL)⟩
  ·(repeat' (conv=>whnf);first|refine aC ?_ ?_<;>intro _|refine z4_N13 ?_|fail);all_goals try (conv=>whnf)
   refine .mk [.fz 3] ?_
   (repeat' (conv=>whnf);first|refine aC ?_ ?_<;>intro _|refine z2_N13 ?_|fail);all_goals try (conv=>whnf)
   exact⟨(⟨5,b,c,[],w⟩,k),⟨⟨lnC (by omega) (by omega) (by omega) w2,rfl,by dsimp only;omega⟩,by simp,by dsimp only;omega,hk⟩,rfl,Imp.agg ⟨Imp.refl _,Imp.refl _,Imp.refl _,Imp.nil _,Imp.refl _,trivial⟩⟩
end Go.Proofs.YtbcjojomkibgeaaGreat
