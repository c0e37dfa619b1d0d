/- Lemmas of this seat. Conditions: as stated. -/
import Derived.Test.YtbcjojomkibgeaaGreatQx
import Derived.Test.YtbcjojomkibgeaaGreatLib
import Derived.Test.YtbcjojomkibgeaaGreatPl
set_option linter.unusedVariables false
set_option linter.unusedSimpArgs false
set_option maxHeartbeats 2000000
set_option maxRecDepth 4000
namespace Go.Proofs.YtbcjojomkibgeaaGreat
section
open Go.Sx Go.Fq Go.Dt
theorem RFeas.congr {p:Pr} {x y:Nat→Rat} (h:RFeas p x) (e:∀j<p.c.length,x j=y j):RFeas p y:=by
 have hs:∀w:Rw,sm p.c.length (fun j=>at' w.1 j*x j)=sm p.c.length (fun j=>at' w.1 j*y j):=fun w=>sm_congr fun j hj=>by rw [e j hj]
 refine rfeas_iff.2 ⟨fun j hj=>by rw [←e j hj];exact h.nn j hj,fun w hw=>?_⟩
 have:=(rfeas_iff.1 h).2 w hw
 unfold rk at this⊢
 rw [hs]at this;exact this
theorem feas_of {p:Pr} {X:List F} (hv:VP p) (hX:X.length=p.c.length) (vX:∀k<X.length,VF (X.getD k (0,1))) (hr:∀w∈p.r,(prod w.1 X).2.2 =0) (h:RFeas p (at' X)):Feas p X:=by
 obtain⟨h0,h1⟩:=rfeas_iff.1 h
 have hX':∀f∈X,VF f∧0≤f.1:=fun f hf=>by
  obtain⟨i,hi,rfl⟩:=List.getElem_of_mem hf
  have a1:=vX i hi
  have a2:=h0 i (by omega)
  rw [at_get hi]at a2
  rw [List.getD_eq_getElem?_getD,List.getElem?_eq_getElem hi]at a1
  exact⟨a1,(VF.nonneg a1).2 a2⟩
 refine⟨hv,hX,fun f hf=>(hX' f hf).1,fun f hf=>(hX' f hf).2,fun w hw=>⟨hr w hw,?_⟩⟩
 obtain⟨k1,k2,k3,k4,k5⟩:=prod_ok' (hr w hw)
 obtain⟨v1,v2,v3,v4,v5⟩:=hv.2.2.2.2 w hw
 rw [v1]at k5
 obtain⟨g1,g2,g3⟩:=h1 w hw
 rw [←k5]at g1 g2 g3
 rcases(show w.2.1=1∨w.2.1=2∨w.2.1=3 by omega)with e|e|e
 ·exact .inl ⟨e,(fcmp_le k4 v5).2 (g1 e)⟩
 ·exact .inr (.inl ⟨e,(fcmp_ge k4 v5).2 (g2 e)⟩)
 ·exact .inr (.inr ⟨e,(fcmp_eq k4 v5).2 (g3 e)⟩)
theorem solv_opt {p:Pr} {tu sl:Nat→Int} {s0 s1 s2 s3 s4:TS} {z z':Int} {X Y:List F} {v:F} (hs:Sml p) (hb:∀i<p.r.length,tu i*sl i=1∨tu i*sl i= -1) (h:Qh1 p (fun a=>tu a*sl a) s0 s1 z) (k:Qh2 p 1 s1 s2 s3 s4 z') (hz:z'<0) (hX:X.length=p.c.length)
  (pX:PtV p.c.length (p.c.length+2*p.r.length) s4.1 s4.2.1 s4.2.2 p.r.length X) (vv:VF v) (ev:val v=((-(s4.1 p.r.length (nE p)):Int):Rat)/((s4.2.2:Rat)*((1:Int):Rat))) (hY:Y.length=p.r.length) (pY:DuV s4.1 s4.2.2 p.c.length p.r.length 0 1 tu sl p.r.length Y):
  Opt p X Y∧(prod p.c X).2.2 =0∧((prod p.c X).1,(prod p.c X).2.1)=v:=by
 obtain⟨I,_⟩:=ph2_ti h k
 have Z:=zr4 h k
 have d0:=I.inv.d0
 have B:=tbd_inj h.vp hs h.ini hb I (.inr rfl)
 have c0:∀i<p.r.length,cc p 1 (uC p i)=0:=fun i _=>cc_hi (by unfold uC;omega)
 have hp:=y_fit h.vp hs B hb (.inl rfl) c0 hY pY
 have nn:∀k<nC p,0≤s4.1 p.r.length k:=by
  rcases k.ends with⟨_,h⟩|⟨c,hc,_⟩
  ·exact h
  ·omega
 have Dp:DualP p (fun a=>tu a*sl a) s0 s4 (cc p 1) 1 Y:=⟨h.vp,h.ini,I,by decide,nn,fun k _=>cc_hi (by omega),cc_hi (by unfold nE;omega),hY,fun i hi=>du_y pY d0 (by decide) c0 hi,hp⟩
 have vX:∀k<X.length,VF (X.getD k (0,1))∧at' X k=(xE p s4 k:Rat)/(s4.2.2:Rat):=fun k hk=>pt_x I pX (by omega)
 have hg:∀k<X.length,(xE p s4 k).natAbs ≤120000:=fun k _=>xE_bd hs.m4 B k
 have n4:=hs.n4
 have hv:=h.vp
 have hc:(prod p.c X).2.2 =0:=prod_fit (A:=10) (m:=120000) hX.symm d0 B.d.2 hv.2.2.2.1 hs.c vX hg (by omega)
 have hr:∀w∈p.r,(prod w.1 X).2.2 =0:=fun w hw=>by
  have hl:=(hv.2.2.2.2 w hw).1
  exact prod_fit (A:=1) (m:=120000) (by omega) d0 B.d.2 (hv.2.2.2.2 w hw).2.2.2.1 (hs.r w hw).1 vX hg (by omega)
 have hf:Feas p X:=feas_of hv hX (fun k hk=>(vX k hk).1) hr ((rfeas_ok h.ini I Z).congr fun j hj=>((vX j (by omega)).2).symm)
 obtain⟨k1,k2,k3,k4,k5⟩:=prod_ok' hc
 have ec:val ((prod p.c X).1,(prod p.c X).2.1)=val v:=by
  rw [k5,ev]
  show sm p.c.length (fun j=>cR p j*at' X j)=_
  rw [cost_q h.vp k.sc1 k.scd d0 (x:=at' X) (g:=xE p s4) (fun j hj=>(vX j (by omega)).2)]
  congr 2
  unfold xE
  rw [sI_basis (fun j _ hb=>cc_hi hb)]
  have e:=I.inv.cost (nE p) (by omega)
  rw [cc_hi (p:=p) (sc:=1) (k:=nE p) (by unfold nE;omega),Int.mul_zero]at e
  omega
 have hds:0<(s4.2.2:Rat)*((1:Int):Rat):=Rat.mul_pos (rqp d0) (rqp (by decide))
 have hblw:Blw p Y (fun j=>p.c.getD j (0,1)):=fun j hj=>by
  obtain⟨v1,v2⟩:=Dp.col_val hj
  refine⟨hp.2 j hj,?_⟩
  have vc:=all_at h.vp.2.2.2.1 (i:=j) hj
  rw [fcmp_le v1 vc,v2]
  have e:=cc_val h.vp k.sc1 k.scd hj
  unfold at' at e
  rw [e]
  have h1:=div_ge0 hds (Dp.nn j (by unfold nC;omega))
  have d1:=rq0 d0
  have e2:(((s4.2.2*cc p 1 j-s4.1 p.r.length j:Int)):Rat)/((s4.2.2:Rat)*((1:Int):Rat))=(cc p 1 j:Rat)/((1:Int):Rat)-((s4.1 p.r.length j:Int):Rat)/((s4.2.2:Rat)*((1:Int):Rat)):=by
   rw [Rat.intCast_sub,Rat.intCast_mul];grind
  rw [e2];grind
 have hbd:=bound_yes h.vp ⟨Dp.sgn,hblw⟩
 obtain⟨v1,v2⟩:=Dp.bds_val
 refine⟨⟨hf,by rw [hbd];exact hp.1,?_⟩,hc,k4.inj vv ec⟩
 rw [hbd]
 have e:val ((prod p.c X).1,(prod p.c X).2.1)=val ((prod (bds p) Y).1,(prod (bds p) Y).2.1):=by
  rw [ec,ev,v2]
 have e2:=k4.inj v1 e
 rw [Prod.mk.injEq]at e2
 exact(eqR hc hp.1).2 e2
theorem solv_chk {p:Pr} {s:Slt} (hv:VP p) (hs:Sml p) (h:SolV p s):s.1=2∨(s.1=1∧Opt p s.2.1 s.2.2.2.1∧(prod p.c s.2.1).2.2 =0∧((prod p.c s.2.1).1,(prod p.c s.2.1).2.1)=s.2.2.1∧s.2.2.2.2=[])∨(s.1=3∧s.2.1=[]∧s.2.2.1=(0,1)∧s.2.2.2.2=[]∧Inf p s.2.2.2.1):=by
 cases h with
 |opt h1 h k hz hX pX vv ev hY pY=>
  obtain⟨e,hb⟩:=h1 hs.d1
  subst e
  obtain⟨a,b,c⟩:=solv_opt hs hb h k hz hX pX vv ev hY pY
  exact .inr (.inl ⟨rfl,a,b,c,rfl⟩)
 |unb h=>exact .inl rfl
 |inf h1 h ho hY pY=>exact .inr (.inr ⟨rfl,rfl,rfl,rfl,solv_inf hs (h1 hs.d1) h ho hY pY⟩)
end
section
open Go.Sx Go.Np
abbrev lnv (l:Ln):List SV:=[i64 l.k,i64 l.c,i64 l.n, .psl 1 (ints l.w), .psl 1 (ints l.s)]
abbrev flv (f:Fl):List SV:=[.str f.nm, .psl 1 (ints f.rt),i64 f.cl,i64 f.lo,i64 f.hi, .psl 1 (ints f.v),i64 f.p,i64 f.q]
abbrev lns (l:List Ln):List (List SV):=l.map lnv
abbrev fls (l:List Fl):List (List SV):=l.map flv
abbrev strs (l:List ByteArray):List (List SV):=l.map fun s=>[.str s]
abbrev ntv (n:Nt):SV:= .agg [.psl 1 (strs n.nm), .psl 5 (lns n.ln), .psl 8 (fls n.fl)]
theorem lnl (l:List Ln):(lns l).length =l.length:=by simp [lns]
theorem fll (l:List Fl):(fls l).length =l.length:=by simp [fls]
theorem stl (l:List ByteArray):(strs l).length =l.length:=by simp [strs]
theorem lng {l:List Ln} {i:Nat} (h:i<l.length):(lns l)[i]? =some (lnv (l.getD i ln0)):=by simp [lns,h]
theorem flg {l:List Fl} {i:Nat} (h:i<l.length):(fls l)[i]? =some (flv (l.getD i fl0)):=by simp [fls,h]
theorem stg {l:List ByteArray} {i:Nat} (h:i<l.length):(strs l)[i]? =some [.str (l.getD i bs0)]:=by simp [strs,h]
def bb (s:ByteArray) (i:Nat):UInt8:=(s[i]?).getD 0
theorem bbg {s:ByteArray} {i:Nat} (h:i<s.size):s[i]? =some (bb s i):=by
 unfold bb;rw [getElem?_pos s i h];rfl
theorem ba_ne {s:ByteArray} (h:¬s=⟨#[]⟩):1≤s.size:=by
 rcases Nat.eq_zero_or_pos s.size with h0|h0
 ·refine absurd ?_ h
  cases s with|mk d=>simp only [ByteArray.size]at h0;rw [Array.eq_empty_of_size_eq_zero h0]
 ·exact h0
structure NL (n:Nt):Prop where
 nm:n.nm.length≤9223372036854775807
 ln:n.ln.length≤9223372036854775807
 fl:n.fl.length≤9223372036854775807
 ns:∀s∈n.nm,s.size≤9223372036854775807
 lw:∀l∈n.ln,l.w.length≤9223372036854775807∧l.s.length≤9223372036854775807
 fs:∀f∈n.fl,f.nm.size≤9223372036854775807∧f.rt.length≤9223372036854775807∧f.v.length≤9223372036854775807
theorem getD_in {α:Type} {l:List α} {d:α} {i:Nat} (h:i<l.length):l.getD i d∈l:=by
 rw [List.getD_eq_getElem?_getD,List.getElem?_eq_getElem h];exact List.getElem_mem h
end
section
open Go.Sx
theorem ints_take (l:List Int) (k:Nat):(ints l).take k=ints (l.take k):=by simp [ints,List.map_take]
abbrev src (L:List Int) (k:Nat):Chunk:= .box [.psl 1 (ints L),i64 k]
def md (x n:Int):Int:=if x.tmod n<0 then x.tmod n+n else x.tmod n
theorem md_bd {x n:Int} (hn:1≤n):0≤md x n∧md x n<n:=by
 have h1:=Int.tmod_lt_of_pos x (show 0<n by omega)
 have h2: -n<x.tmod n:=by
  have h3:=Int.tmod_lt_of_pos (-x) (show 0<n by omega)
  rw [Int.neg_tmod]at h3
  omega
 unfold md;split<;>omega
theorem Mod_ok (x n:Int) (hn:1≤n) (hn2:n≤9223372036854775807):Ctr Tryz.prog 32 [i64 x,i64 n] [] (fun r o=>o=[]∧r=i64 (md x n)):=by
 refine fI 0 Tryz.func32 ?_
 have hb:=md_bd (x:=x) hn
 have h1:=Int.tmod_lt_of_pos x (show 0<n by omega)
 unfold md at hb
 (repeat' (conv=>whnf);first|refine aC ?_ ?_<;>intro<;>try omega|refine z1_F1 ?_|fail);all_goals try (conv=>whnf)
 refine⟨by omega,?_⟩
 (repeat' (conv=>whnf);first|refine aC ?_ ?_<;>intro<;>try omega|refine z1_F1 ?_|fail);all_goals try (conv=>whnf)
 ·exact⟨rfl,by simp only [oneS];unfold md;rw [if_pos (by assumption)]⟩
 ·exact⟨rfl,by simp only [oneS];unfold md;rw [if_neg (by assumption)]⟩
theorem z2_Kn {G H:Prop} (k:H) (h:H→G:=by first|exact fun r=>aS r|exact fun r=>aG r|exact fun r=>aD r|exact fun r=>aH r|exact fun r=>aP_F1 r|exact fun r=>aI r|exact fun r=>aJ r|exact fun r=>aW (.qs [0,1,2,3,4,5,6,7,8,9] .nil) r|exact fun r=>aW (.qs [0,1,2,3,4,5,6,7,8,9,10,11] .nil) r):G:=h k
theorem Raw_ok (L:List Int) (k:Nat) (hL:L.length≤2000) (hk:k≤2000):
  Ctr Tryz.prog 33 [.ptr 0 0] [src L k] (fun r o=>∃x:Int×Nat,x.2≤2000∧o=[src L x.2]∧r=i64 x.1):=by
 refine fI 1 Tryz.func33 ?_
 (repeat' (conv=>whnf);first|refine aC ?_ ?_<;>intro _|refine z2_Kn ?_|fail);all_goals try (conv=>whnf)
 ·exact⟨(0,k),hk,rfl,rfl⟩
 ·simp only [ints_len]at*
  exact⟨(_,k+1),by simp only;omega,rfl,rfl⟩
theorem N_ok (L:List Int) (k:Nat) (hL:L.length≤2000) (hk:k≤2000) (n:Int) (hn:1≤n) (hn2:n≤9223372036854775807):
  Ctr Tryz.prog 10 [.ptr 0 0,i64 n] [src L k] (fun r o=>∃x:Int×Nat,(0≤x.1∧x.1<n∧x.2≤2000)∧o=[src L x.2]∧r=i64 x.1):=by
 refine fI 1 Tryz.func10 ?_
 (repeat' (conv=>whnf);first|refine aC ?_ ?_<;>intro _|refine z1_F1 ?_|fail);all_goals try (conv=>whnf)
 refine aM [0] (Raw_ok L k hL hk) rfl rfl ?_
 rintro _ _ ⟨⟨v,k'⟩,hk',rfl,rfl⟩
 (repeat' (conv=>whnf);first|refine aC ?_ ?_<;>intro _|refine z1_F1 ?_|fail);all_goals try (conv=>whnf)
 refine aK [] (Mod_ok v n hn hn2) ?_
 (repeat' (conv=>whnf);first|refine aC ?_ ?_<;>intro _|refine z1_F1 ?_|fail);all_goals try (conv=>whnf)
 exact⟨(md v n,k'),⟨(md_bd hn).1,(md_bd hn).2,hk'⟩,rfl,rfl⟩
theorem getD_mem {l:List Int} {i:Nat} (h:i<l.length):l.getD i 0∈l:=by
 rw [List.getD_eq_getElem?_getD,List.getElem?_eq_getElem h];exact List.getElem_mem h
theorem Pick_ok (L:List Int) (k:Nat) (hL:L.length≤2000) (hk:k≤2000) (l:List Int) (hl:1≤l.length) (hl2:l.length≤1000000):
  Ctr Tryz.prog 11 [.ptr 0 0, .psl 1 (ints l)] [src L k] (fun r o=>∃x:Int×Nat,(x.1∈l∧x.2≤2000)∧o=[src L x.2]∧r=i64 x.1):=by
 refine fI 1 Tryz.func11 ?_
 (repeat' (conv=>whnf);first|refine aC ?_ ?_<;>intro _|refine z1_F1 ?_|fail);all_goals try (conv=>whnf)
 refine aM [0] (N_ok L k hL hk _ (by rw [ints_len];omega) (by rw [ints_len];omega)) rfl rfl ?_
 rintro _ _ ⟨⟨v,k'⟩,⟨h1,h2,hk'⟩,rfl,rfl⟩
 (repeat' (conv=>whnf);first|refine aC ?_ ?_<;>intro _|refine z1_F1 ?_|fail);all_goals try (conv=>whnf)
 refine⟨(l.getD v.toNat 0,k'),⟨getD_mem (by simp only [ints_len]at h2;omega),hk'⟩,rfl,rfl⟩
theorem New_ok (l:List Int) (hl:l.length≤9223372036854775807):
  Ctr Tryz.prog 7 [.psl 1 (ints l)] [] (fun r o=>o=[src (l.take 2000) 0]∧r= .ptr 0 0):=by
 refine fI 0 Tryz.func7 ?_
 (repeat' (conv=>whnf);first|refine aC ?_ ?_<;>intro _|refine z1_F1 ?_|fail);all_goals try (conv=>whnf)
 simp only [ints_len]
 refine⟨min l.length 2000,by omega,⟨by omega,by omega⟩,?_⟩
 (repeat' (conv=>whnf);first|refine aC ?_ ?_<;>intro _|refine z1_F1 ?_|fail);all_goals try (conv=>whnf)
 refine⟨?_,rfl⟩
 have e:l.take (min l.length 2000)=l.take 2000:=by
  by_cases h:l.length≤2000
  ·rw [Nat.min_eq_left h,List.take_of_length_le (Nat.le_refl _),List.take_of_length_le h]
  ·rw [Nat.min_eq_right (by omega)]
 rw [List.drop_zero,ints_take,e]
 rfl
end
end Go.Proofs.YtbcjojomkibgeaaGreat
