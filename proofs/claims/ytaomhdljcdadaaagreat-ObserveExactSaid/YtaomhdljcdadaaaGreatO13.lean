/- Lemmas of this seat. Conditions: as stated. -/
import Derived.Test.YtaomhdljcdadaaaGreatO12
import Derived.Test.YtaomhdljcdadaaaGreatB13
import Derived.Test.YtaomhdljcdadaaaGreatX4
import Derived.Test.YtaomhdljcdadaaaGreatCn5
set_option linter.unusedVariables false
set_option linter.unusedSimpArgs false
set_option maxHeartbeats 2000000
set_option maxRecDepth 8000
namespace Go.Proofs.YtaomhdljcdadaaaGreat
open Go.Sx Go.Pk Go.Mc Go.Np Go.Tp Go.Cv Go.St
open Classical in
noncomputable def kaG (n:Nt) (p:List Pk) (D:Tp) (f h:Int) (i:Nat):List Pb:=if(p.getD i pk0).f =f then(match arO n p D i h with
 |none=>[]
 |some a=>if hb: -4294967296≤a∧a≤4294967296 then [⟨⟨0,a,(p.getD i pk0).s⟩,hb⟩]else [])else []
noncomputable def kaB (n:Nt) (p:List Pk) (D:Tp) (f h:Int):Nat→List Pb
 |0=>[]
 |i+1=>kaB n p D f h i++kaG n p D f h i
theorem kaB_len {n:Nt} {p:List Pk} {D:Tp} {f h:Int}:∀i,(kaB n p D f h i).length ≤i
 |0=>Nat.le_refl _
 |i+1=>by
  have ih:=kaB_len (n:=n) (p:=p) (D:=D) (f:=f) (h:=h) i
  have h1:(kaG n p D f h i).length ≤1:=by
   unfold kaG
   split
   ·split
    ·simp
    ·split<;>simp
   ·simp
  rw [kaB,List.length_append];omega
theorem arO_vb {n:Nt} {p:List Pk} (hp:SkP n p) {ms:List (List Int)} (hm:VB ms) {k h a:Int} (e:arO n p (dR ms) k h=some a): -4294967296≤a∧a≤4294967296:=by
 have hk:¬(h<0∨hps n p k≤h):=fun c=>by rw [arO_neg c]at e;cases e
 have hkk:0≤k∧k<p.length:=by
  unfold hps at hk
  split at hk<;>omega
 by_cases h0:h=0
 ·subst h0
  rw [arO_zero hk]at e
  injection e with e
  have:=hp.fl (i:=k.toNat) (by omega)
  omega
 ·rw [arO_pos hk h0]at e
  split at e
  ·injection e with e
   have:=hm k.toNat (h.toNat-1)
   omega
  ·cases e
def KaP (n:Nt) (d:List (List Int)) (p:List Pk) (D:Tp) (f h:Int):Prop:=∃x,AtP n d f h x∧x.2.2.2=0∧KpG ((srt pbt (kaB n p D f h p.length)).map (·.x)) 0 x.1 x.2.1 x.2.2.1
theorem mk_lenO {F:Nat→Int} {x:E4} (h:MkP F x):x.1.length≤400:=by
 rcases h with⟨vs,p,q,_,h,rfl⟩|⟨_,rfl⟩
 ·exact h.n2
 ·exact Nat.zero_le _
theorem atP_lenO {n:Nt} {d:List (List Int)} {f h:Int} {x:E4} (hx:AtP n d f h x):x.1.length≤400:=by
 rcases hx with⟨a,rfl⟩|⟨a,b,rfl⟩|⟨a,b,⟨_,rfl⟩|⟨s,_,h⟩⟩
 ·exact Nat.zero_le _
 ·exact Nat.zero_le _
 ·exact Nat.zero_le _
 ·exact mk_lenO h
theorem kaC_ok:bCmpOK 77 pbt:=by
 intro a b
 refine Ctr.impE (Q:=fun c=>c<0↔a.x.t<b.x.t) (s:=fun c=>i64 c) (ow:=fun _=>[]) ?_
 refine fI 0 Tryz.func77 ?_
 have h1:=a.h
 have h2:=b.h
 (repeat' (conv=>whnf);first|refine aC ?_ ?_<;>intro<;>try omega|refine z2_B11 ?_|fail);all_goals try (conv=>whnf)
 exact⟨a.x.t-b.x.t,by omega,rfl,Imp.refl _⟩
theorem lAtO_ok (n:Nt) (hn:NL n) (d:List (List Int)) (hd:DL d) (f h:Int):Ctr Tryz.prog 75 [ntv n, .psl 1 (dls d),i64 f,i64 h] [] (fun r o=>∃x1 x2 x3 x4,AtP n d f h (x1,x2,x3,x4)∧o=[]∧r= .tup [crv x1 x2 x3,i64 x4]):=
 (lAt_ok n hn d hd f h).mono fun r o ⟨x,h1,h2,h3⟩=>⟨x.1,x.2.1,x.2.2.1,x.2.2.2,h1,h2,h3⟩
theorem rAtO_ok (n:Nt) (hn:NL n) (d:List (List Int)) (hd:DL d) (f h:Int):Ctr Tryz.prog 78 [ntv n, .psl 1 (dls d),i64 f,i64 h] [] (fun r o=>∃x1 x2 x3 x4,AtP n d f h (x1,x2,x3,x4)∧o=[]∧r= .tup [crv x1 x2 x3,i64 x4]):=
 (rAtL_ok n hn d hd f h).mono fun r o ⟨x,h1,h2,h3⟩=>⟨x.1,x.2.1,x.2.2.1,x.2.2.2,h1,h2,h3⟩
theorem z2_O13 {G H:Prop} (k:H) (h:H→G:=by first|exact fun r=>aS r|exact fun r=>aG r|exact fun r=>aD r|exact fun r=>aP_B5 r|exact fun r=>aI r|exact fun r=>aJ r):G:=h k
theorem OKaA_ok (n:Nt) (hn:NL n) (d:List (List Int)) (hd:DL d) (p:List Pk) (h:SkP n p) (ms:List (List Int)) (hm:MsL ms) (hb:VB ms) (f hp:Int):
  Ctr Tryz.prog 34 [ntv n, .psl 1 (dls d), .psl 3 (pks p), .agg [.psl 1 (trs ms)],i64 f,i64 hp] [] (fun r o=>o=[]∧r= .bp (KaP n d p (dR ms) f hp)):=by
 refine Ctr.imp ?_
 refine fI 0 Tryz.func34 ?_
 have h60:=h.l
 have hpl:=pks_len p
 have cL:=lAtO_ok n hn d hd f hp
 (repeat' (conv=>whnf);first|refine aC ?_ ?_<;>intro<;>try omega|refine z2_B11 ?_|fail);all_goals try (conv=>whnf)
 refine aM [] cL rfl rfl ?_
 rintro _ _ ⟨x1,x2,x3,x4,hx,rfl,rfl⟩
 have hxl:=atP_lenO hx
 dsimp only at hxl
 by_cases h0:x4=0
 ·subst h0
  have hK:∀Q,KpG Q 0 x1 x2 x3↔∃x,AtP n d f hp x∧x.2.2.2=0∧KpG Q 0 x.1 x.2.1 x.2.2.1:=fun Q=>⟨fun c=>⟨_,hx,rfl,c⟩,fun⟨x,e1,_,e2⟩=>by cases atP_uniq hx e1;exact e2⟩
  (repeat' (conv=>whnf);first|refine aC ?_ ?_<;>intro<;>try omega|refine z2_B11 ?_|fail);all_goals try (conv=>whnf)
  refine LoopOb.mk (Y:=Nat) (st:=fun i=>⟨[(32,i64 i),(31,i64 (pks p).length),(30, .psl 3 (pks p)),(15, .vec 3),(13, .ptr 2 0),(9, .ptr 1 0),(6, .ptr 0 0),(2, .psl 3 (pks p)),(4,i64 f),(5,i64 hp)],[nbx n, .box [.psl 1 (trs ms)], .box [.psl 1 (ints x1),i64 x2,i64 x3], .vec 3 (pbs (kaB n p (dR ms) f hp i))]⟩)
   (inv:=fun i=>i≤p.length) (fun i=>p.length-i) 0 [0,1,2,3] (by omega) (by(exact aL)) ?_
  rintro i hi
  have hl:=pbs_len (kaB n p (dR ms) f hp i)
  have hl2:=kaB_len (n:=n) (p:=p) (D:=dR ms) (f:=f) (h:=hp) i
  by_cases hil:i<p.length
  ·have hg:=pks_get hil
   have cA:=Arr_ok n hn p (by omega) ms hm i hp
   have hab:=fun a=>arO_vb h hb (k:=i) (h:=hp) (a:=a)
   have hst:kaB n p (dR ms) f hp (i+1)=kaB n p (dR ms) f hp i++kaG n p (dR ms) f hp i:=rfl
   unfold kaG at hst
   generalize arO n p (dR ms) i hp=ao at*
   generalize p.getD i pk0=x at*
   have hap:=fun y=>(show pbs (kaB n p (dR ms) f hp i++[y])=pbs (kaB n p (dR ms) f hp i)++[pbw y]by simp [pbs])
   generalize kaB n p (dR ms) f hp i=V at*
   cases ao with
   |none=>
    simp only [arrT]at cA
    have e:kaB n p (dR ms) f hp (i+1)=V:=by
     rw [hst];split<;>simp
    (repeat' (conv=>whnf);first|refine⟨i,_,rfl,hg,?_⟩|refine aC ?_ ?_<;>intro<;>try omega|refine z2_B11 ?_|(refine aK [] (cA) ?_)|fail);all_goals try (conv=>whnf)
    all_goals exact⟨i+1,[0,1,2,3],by omega,by omega,by rw [e];(exact aL)⟩
   |some a=>
    simp only [arrT]at cA
    have hv:=hab a rfl
    dsimp only at hst
    rw [dif_pos hv]at hst
    by_cases hc:x.f=f
    ·rw [if_pos hc]at hst
     (repeat' (conv=>whnf);first|refine⟨i,_,rfl,hg,?_⟩|refine aC ?_ ?_<;>intro<;>try omega|refine z2_B11 ?_|(refine aK [] (cA) ?_)|fail);all_goals try (conv=>whnf)
     all_goals first
      |exact⟨i+1,[0,1,2,6],by omega,by omega,by rw [hst,hap];(exact aL)⟩
      |trace_state
    ·rw [if_neg hc,List.append_nil]at hst
     (repeat' (conv=>whnf);first|refine⟨i,_,rfl,hg,?_⟩|refine aC ?_ ?_<;>intro<;>try omega|refine z2_B11 ?_|(refine aK [] (cA) ?_)|fail);all_goals try (conv=>whnf)
     all_goals first
      |exact⟨i+1,[0,1,2,3],by omega,by omega,by rw [hst];(exact aL)⟩
      |trace_state
  ·obtain rfl:i=p.length:=by omega
   have cS:=bSortStableN_ok _ _ kaC_ok (kaB n p (dR ms) f hp p.length) (by omega)
   have hsl:=srt_len (k:=pbt) (kaB n p (dR ms) f hp p.length)
   have hpb:pbs (srt pbt (kaB n p (dR ms) f hp p.length))=pks ((srt pbt (kaB n p (dR ms) f hp p.length)).map (·.x)):=by simp [pbs,pks]
   have cK:=cKp_ok ((srt pbt (kaB n p (dR ms) f hp p.length)).map (·.x)) (by rw [List.length_map];omega) 0 x1 x2 x3 (by omega)
   rw [hpb]at cS
   have hKK:=hK ((srt pbt (kaB n p (dR ms) f hp p.length)).map (·.x))
   (repeat' (conv=>whnf);first|refine aC ?_ ?_<;>intro<;>try omega|refine z2_O13 ?_|(refine Gh.mk [] ?_;(conv=>whnf);refine aK [3] cS ?_)|fail);all_goals try (conv=>whnf)
   refine .mk [.fz 3] ?_
   (repeat' (conv=>whnf);first|refine aC ?_ ?_<;>intro<;>try omega|refine z2_B11 ?_|(refine aK [] (cK) ?_)|fail);all_goals try (conv=>whnf)
   exact⟨rfl,Imp.bp hKK⟩
 ·have hno:¬KaP n d p (dR ms) f hp:=fun⟨x,e1,e2,_⟩=>by cases atP_uniq hx e1;exact h0 e2
  (repeat' (conv=>whnf);first|refine aC ?_ ?_<;>intro<;>try omega|refine z2_B11 ?_|fail);all_goals try (conv=>whnf)
  exact⟨rfl,Imp.bl ⟨fun e=>(by cases e),fun e=>absurd e hno⟩⟩
theorem z4_O13 {G H:Prop} (k:H) (h:H→G:=by first|exact fun r=>aS r|exact fun r=>aG r|exact fun r=>aD r|exact fun r=>aP_B5 r|exact fun r=>aI r|exact fun r=>aJ r|exact fun r=>aW (.qs [0,1,2,3,4,5,6,7,8,9,10,11,12,13,14,15] .nil) r|exact fun r=>aW (.qs [0,1,2,3,4,5,6,7,8,9,10,11,12,13,14] (.l 15 [] (.qs [16] (.l 17 [] .nil .no)) .no)) r):G:=h k
theorem z3_O13 {G H:Prop} (k:H) (h:H→G:=by first|exact fun r=>aS r|exact fun r=>aG r|exact fun r=>aD r|exact fun r=>aH r|exact fun r=>aP_B5 r|exact fun r=>aI r|exact fun r=>aJ r|exact fun r=>aW (.qs [0,1,2,3,4,5,6,7,8,9,10,11,12,13,14,15] .nil) r|exact fun r=>aW (.qs [0,1,2,3,4,5,6,7,8,9,10,11,12,13,14] (.l 15 [] (.qs [16] (.l 17 [] .nil .no)) .no)) r):G:=h k
theorem RKaA_ok (n:Nt) (hn:NL n) (d:List (List Int)) (hd:DL d) (p:List Pk) (h:SkP n p) (ms:List (List Int)) (hm:MsL ms) (hb:VB ms) (f hp:Int):
  Ctr Tryz.prog 35 [ntv n, .psl 1 (dls d), .psl 3 (pks p), .agg [.psl 1 (trs ms)],i64 f,i64 hp] [] (fun r o=>o=[]∧r= .bp (KaP n d p (dR ms) f hp)):=by
 refine Ctr.imp ?_
 refine fI 0 Tryz.func35 ?_
 have h60:=h.l
 have hpl:=pks_len p
 have cL:=rAtO_ok n hn d hd f hp
 (repeat' (conv=>whnf);first|refine aC ?_ ?_<;>intro<;>try omega|refine z3_O13 ?_|fail);all_goals try (conv=>whnf)
 refine aM [] cL rfl rfl ?_
 rintro _ _ ⟨x1,x2,x3,x4,hx,rfl,rfl⟩
 have hxl:=atP_lenO hx
 dsimp only at hxl
 by_cases h0:x4=0
 ·subst h0
  have hK:∀Q,KpG Q 0 x1 x2 x3↔∃x,AtP n d f hp x∧x.2.2.2=0∧KpG Q 0 x.1 x.2.1 x.2.2.1:=fun Q=>⟨fun c=>⟨_,hx,rfl,c⟩,fun⟨x,e1,_,e2⟩=>by cases atP_uniq hx e1;exact e2⟩
  (repeat' (conv=>whnf);first|refine aC ?_ ?_<;>intro<;>try omega|refine z3_O13 ?_|fail);all_goals try (conv=>whnf)
  refine LoopOb.mk (Y:=Nat) (st:=fun i=>⟨[(16,i64 i),(15, .vec 3),(13, .ptr 2 0),(9, .ptr 1 0),(6, .ptr 0 0),(2, .psl 3 (pks p)),(4,i64 f),(5,i64 hp)],[nbx n, .box [.psl 1 (trs ms)], .box [.psl 1 (ints x1),i64 x2,i64 x3], .vec 3 (pbs (srt pbt (kaB n p (dR ms) f hp i)))]⟩)
   (inv:=fun i=>i≤p.length) (fun i=>p.length-i) 0 [0,1,2,3] (by omega) (by(exact aL)) ?_
  rintro i hi
  have hsl:=srt_len (k:=pbt) (kaB n p (dR ms) f hp i)
  have hl:=pbs_len (srt pbt (kaB n p (dR ms) f hp i))
  have hl2:=kaB_len (n:=n) (p:=p) (D:=dR ms) (f:=f) (h:=hp) i
  by_cases hil:i<p.length
  ·have hg:=pks_get hil
   have cA:=RArr_ok n hn p (by omega) ms hm i hp
   have hab:=fun a=>arO_vb h hb (k:=i) (h:=hp) (a:=a)
   have hst:kaB n p (dR ms) f hp (i+1)=kaB n p (dR ms) f hp i++kaG n p (dR ms) f hp i:=rfl
   unfold kaG at hst
   generalize arO n p (dR ms) i hp=ao at*
   generalize p.getD i pk0=x at*
   by_cases hc:x.f=f
   ·rw [if_pos hc]at hst
    cases ao with
    |none=>
     simp only [arrT]at cA
     simp only [List.append_nil]at hst
     generalize kaB n p (dR ms) f hp i=V at*
     (repeat' (conv=>whnf);first|refine⟨i,_,rfl,hg,?_⟩|refine aC ?_ ?_<;>intro<;>try omega|refine z3_O13 ?_|(refine aK [] (cA) ?_)|fail);all_goals try (conv=>whnf)
     all_goals exact⟨i+1,[0,1,2,3],by omega,by omega,by rw [hst];(exact aL)⟩
    |some a=>
     simp only [arrT]at cA
     have hv:=hab a rfl
     dsimp only at hst
     rw [dif_pos hv]at hst
     have hsr:srt pbt (kaB n p (dR ms) f hp (i+1))=(insR pbt ⟨⟨0,a,x.s⟩,hv⟩ (srtR pbt (kaB n p (dR ms) f hp i))).reverse :=by
      rw [hst];unfold srt;rw [srtR_snoc]
     have hRl:=srtR_len (k:=pbt) (kaB n p (dR ms) f hp i)
     have hap:pbs (srt pbt (kaB n p (dR ms) f hp i))++[[i64 0,i64 a,i64 x.s]]=pbs (lay [] (srtR pbt (kaB n p (dR ms) f hp i)) ⟨⟨0,a,x.s⟩,hv⟩ [] 0):=by
      rw [lay_zero];simp [pbs,srt]
     have hll:=fun m=>lay_len [] (srtR pbt (kaB n p (dR ms) f hp i)) (⟨⟨0,a,x.s⟩,hv⟩:Pb) [] m
     simp only [List.length_nil]at hll
     have hstop:=fun m h1 h2=>lay_stop (k:=pbt) [] (R:=srtR pbt (kaB n p (dR ms) f hp i)) (x:=(⟨⟨0,a,x.s⟩,hv⟩:Pb)) [] (m:=m) h1 h2
     simp only [List.nil_append,List.append_nil]at hstop
     rw [←hsr]at hstop
     have hlay:=fun m h=>lay_step [] (srtR pbt (kaB n p (dR ms) f hp i)) (⟨⟨0,a,x.s⟩,hv⟩:Pb) [] (m:=m) h
     simp only [List.length_nil]at hlay
     clear hst hsr
     generalize srtR pbt (kaB n p (dR ms) f hp i)=R at*
     generalize srt pbt (kaB n p (dR ms) f hp i)=V at*
     generalize hz:(⟨⟨0,a,x.s⟩,hv⟩:Pb)=z at*
     have hzw:pbw z=[i64 0,i64 a,i64 x.s]:=by rw [←hz]
     have hzt:pbt z=a:=by rw [←hz]
     generalize kaB n p (dR ms) f hp i=U at*
     have hln:(pbs V).length =R.length:=by rw [hl,hsl,←hRl]
     (repeat' (conv=>whnf);first|refine⟨i,_,rfl,hg,?_⟩|refine aC ?_ ?_<;>intro<;>try omega|refine z3_O13 ?_|(refine aK [] (cA) ?_)|refine ArOb.fits (by simp only [List.length_append,List.length_cons,List.length_nil];omega) ?_|fail);all_goals try (conv=>whnf)
     refine LoopOb.mk (Y:=Nat) (st:=fun m=>⟨[(19,i64 (R.length-m:Nat)),(16,i64 i),(15, .vec 3),(13, .ptr 2 0),(9, .ptr 1 0),(6, .ptr 0 0),(2, .psl 3 (pks p)),(4,i64 f),(5,i64 hp)],[nbx n, .box [.psl 1 (trs ms)], .box [.psl 1 (ints x1),i64 x2,i64 x3], .vec 3 (pbs (lay [] R z [] m))]⟩)
      (inv:=fun m=>m≤R.length∧∀y∈R.take m,pbt z<pbt y) (fun m=>R.length-m) 0 [0,1,2,5] ⟨Nat.zero_le _,by simp⟩ (by rw [←hap,show((R.length-0:Nat):Int)=((pbs V++[[i64 0,i64 a,i64 x.s]]).length :Int)-1 by simp only [List.length_append,List.length_cons,List.length_nil];omega];(exact aL)) ?_
     rintro m ⟨hm1,hmy⟩
     have hpl2:=pbs_len (lay [] R z [] m)
     rw [hll m]at hpl2
     by_cases hmR:m<R.length
     ·obtain⟨A,B,y,hy,hA,e1,e2⟩:=hlay m hmR
      have hg1:=pbs_at (A:=A) (x:=y) (B:=z::B)
      have hg2:=pbs_at2 (A:=A) (x:=z) (y:=y) (B:=B)
      have hsw:=pbs_swap (A:=A) (x:=z) (y:=y) (B:=B)
      have hst:¬z.x.t<y.x.t→lay [] R z [] m=srt pbt (kaB n p (dR ms) f hp (i+1)):=fun h=>hstop m hmy fun w hw=>by rw [hy]at hw;cases hw;exact h
      have hm2:z.x.t<y.x.t→∀w∈R.take (m+1),pbt z<pbt w:=fun h w hw=>by
       rw [List.take_succ_eq_append_getElem (by omega)]at hw
       rcases List.mem_append.1 hw with hw|hw
       ·exact hmy w hw
       ·rw [List.mem_singleton.1 hw]
        rw [List.getElem?_eq_getElem (by omega)]at hy
        rw [Option.some.inj hy];exact h
      rw [e1]at hpl2⊢
      rw [e1]at hst
      (repeat' (conv=>whnf);first|refine⟨_,(List.getElem?_set_ne (by omega)).trans hg1,?_⟩|refine⟨_,hg1,?_⟩|refine⟨_,hg2,?_⟩|refine⟨A.length,by omega,by(first|omega|(simp only [List.length_set];omega)),?_⟩|refine⟨A.length+1,by omega,by omega,?_⟩|refine aC ?_ ?_<;>intro<;>try omega|refine z3_O13 ?_|fail);all_goals try (conv=>whnf)
      ·exact⟨m+1,[0,1,2,3],⟨by omega,hm2 (by assumption)⟩,by omega,by rw [e2,←hsw,show((R.length-(m+1):Nat):Int)=((R.length-m:Nat):Int)-1 by omega];(exact aL)⟩
      ·exact⟨i+1,[0,1,2,3],by omega,by omega,by rw [←hst (by assumption)];(exact aL)⟩
     ·have hst:=hstop m hmy fun w hw=>by rw [List.getElem?_eq_none (by omega)]at hw;cases hw
      (repeat' (conv=>whnf);first|refine aC ?_ ?_<;>intro<;>try omega|refine z3_O13 ?_|fail);all_goals try (conv=>whnf)
      exact⟨i+1,[0,1,2,3],by omega,by omega,by rw [←hst];(exact aL)⟩
   ·rw [if_neg hc,List.append_nil]at hst
    generalize kaB n p (dR ms) f hp i=V at*
    (repeat' (conv=>whnf);first|refine⟨i,_,rfl,hg,?_⟩|refine aC ?_ ?_<;>intro<;>try omega|refine z3_O13 ?_|fail);all_goals try (conv=>whnf)
    all_goals exact⟨i+1,[0,1,2,3],by omega,by omega,by rw [hst];(exact aL)⟩
  ·obtain rfl:i=p.length:=by omega
   have hpb:pbs (srt pbt (kaB n p (dR ms) f hp p.length))=pks ((srt pbt (kaB n p (dR ms) f hp p.length)).map (·.x)):=by simp [pbs,pks]
   have cK:=rkee_ok ((srt pbt (kaB n p (dR ms) f hp p.length)).map (·.x)) (by rw [List.length_map];omega) x1 x2 x3 (by omega)
   have hKK:=hK ((srt pbt (kaB n p (dR ms) f hp p.length)).map (·.x))
   rw [hpb]
   (repeat' (conv=>whnf);first|refine aC ?_ ?_<;>intro<;>try omega|refine z4_O13 ?_|fail);all_goals try (conv=>whnf)
   refine .mk [.fz 3] ?_
   (repeat' (conv=>whnf);first|refine aC ?_ ?_<;>intro<;>try omega|refine z3_O13 ?_|(refine aK [] (cK) ?_)|fail);all_goals try (conv=>whnf)
   exact⟨rfl,Imp.bp hKK⟩
 ·have hno:¬KaP n d p (dR ms) f hp:=fun⟨x,e1,e2,_⟩=>by cases atP_uniq hx e1;exact h0 e2
  (repeat' (conv=>whnf);first|refine aC ?_ ?_<;>intro<;>try omega|refine z3_O13 ?_|fail);all_goals try (conv=>whnf)
  exact⟨rfl,Imp.bl ⟨fun e=>(by cases e),fun e=>absurd e hno⟩⟩
end Go.Proofs.YtaomhdljcdadaaaGreat
