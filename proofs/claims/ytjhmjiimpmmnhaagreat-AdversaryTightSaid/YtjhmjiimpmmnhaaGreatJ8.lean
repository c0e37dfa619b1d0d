/- Lemmas of this seat. Conditions: as stated. -/
import Derived.Test.YtjhmjiimpmmnhaaGreatJ7
import Derived.Test.YtjhmjiimpmmnhaaGreatSxR
import Derived.Test.YtjhmjiimpmmnhaaGreatR1
set_option linter.unusedVariables false
set_option linter.unusedSimpArgs false
set_option maxHeartbeats 2000000
set_option maxRecDepth 4000
namespace Go.Proofs.YtjhmjiimpmmnhaaGreat
section
open Go.Sx Go.Cv Go.Gd Go.Np Go.Pk Go.St Go.Mc
def pws (r:Int):Nat→Int→List Int
 |0,_=>[]
 |f+1,x=>if x≤r then x::pws r f (2*x)else []
abbrev cnds (r:Int):List Int:=0::pws r 9 1
noncomputable abbrev plD (n:Nt) (f:Int) (os cs:List Int):Int:=if(plG n f os cs).2 =0 then(plG n f os cs).1.d else-1
def bsF (g:Int→Int):List Int→Int×Int→Int×Int
 |[],b=>b
 |x::l,b=>bsF g l (if b.2<g x then(x,g x)else b)
theorem bsF_snoc (g:Int→Int) (x:Int):∀(A:List Int) (b:Int×Int),bsF g (A++[x]) b=if(bsF g A b).2 <g x then(x,g x)else bsF g A b
 |[],b=>rfl
 |y::A,b=>by simp only [List.cons_append,bsF];exact bsF_snoc g x A _
noncomputable def srO (n:Nt) (f:Int) (cs:List Int) (r:Int):Nat→List Int
 |0=>List.replicate n.fl.length 0
 |i+1=>(srO n f cs r i).set i (bsF (fun x=>plD n f ((srO n f cs r i).set i x) cs) (cnds r) (0,-2)).1
theorem srO_len (n:Nt) (f:Int) (cs:List Int) (r:Int):∀i,(srO n f cs r i).length =n.fl.length
 |0=>by simp [srO]
 |i+1=>by simp only [srO,List.length_set];exact srO_len n f cs r i
abbrev seB (n:Nt) (f:Int) (cs:List Int):List Chunk:=[.box [.psl 1 (strs n.nm), .psl 5 (lns n.ln), .psl 8 (fls n.fl)], .box [i64 f], .box [.psl 1 (ints cs)], .box [.nil,i64 0,i64 0,i64 0]]
abbrev sew (x:Atk×List Int×Int):SV:= .tup [atw x.1, .psl 1 (ints x.2.1),i64 x.2.2]
theorem z1_J8 {G H:Prop} (k:H) (h:H→G:=by first|exact fun r=>aS r|exact fun r=>aG r|exact fun r=>aD r|exact fun r=>aP_T11 r|exact fun r=>aI r|exact fun r=>aJ r):G:=h k
theorem Cand_ok (r:Int):Ctr Tryz.prog 58 [i64 r] [] (fun x o=>o=[]∧x= .fn 87 [.pptr [i64 r]]):=by
 refine fI 0 Tryz.func58 ?_
 (repeat' (conv=>whnf);first|refine aC ?_ ?_<;>intro<;>try omega|refine z1_J8 ?_|fail);all_goals try (conv=>whnf)
 refine .mk [.fb 0] ?_
 (repeat' (conv=>whnf);first|refine aC ?_ ?_<;>intro<;>try omega|refine z2_T11 ?_|fail);all_goals try (conv=>whnf)
 exact⟨rfl,rfl⟩
abbrev seW (n:Nt) (f:Int) (cs:List Int) (i:Nat) (O:List Int) (b m:Int):List Chunk:=[.box [.psl 1 (strs n.nm), .psl 5 (lns n.ln), .psl 8 (fls n.fl)], .box [i64 f], .box [.psl 1 (ints cs)], .box [.nil,i64 0,i64 0,i64 0], .vec 1 (ints O), .box [.vec 4], .box [i64 i], .box [i64 b], .box [i64 m]]
theorem pws_at {r:Int}:∀{f:Nat} {x:Int} {j:Nat},1≤x→(∀k,k<j→x*2^k≤r)→j<f→((pws r f x)[j]? =if x*2^j≤r then some (x*2^j)else none)
 |0,x,j,_,_,h=>by omega
 |f+1,x,0,_,_,_=>by
  simp only [pws,Int.pow_zero,Int.mul_one]
  by_cases h:x≤r
  ·rw [if_pos h,if_pos h];rfl
  ·rw [if_neg h,if_neg h];rfl
 |f+1,x,j+1,hx,h,hj=>by
  have h0:=h 0 (by omega)
  simp only [Int.pow_zero,Int.mul_one]at h0
  have e:∀k:Nat,2*x*2^k=x*2^(k+1):=fun k=>by rw [Int.pow_succ];ac_rfl
  simp only [pws]
  rw [if_pos h0,List.getElem?_cons_succ,pws_at (by omega) (fun k hk=>by rw [e];exact h (k+1) (by omega)) (by omega),e]
theorem cand1_ok (Y:YP) (hm:Y.m=9) (n:Nt) (f:Int) (cs:List Int) (i:Nat) (r:Int) (hr:0≤r∧r≤200) (O:Nat→List Int) (b m:Nat→Int)
  (hY:∀j x,(cnds r)[j]? =some x→CtrY Tryz.prog Y [i64 x] (seW n f cs i (O j) (b j) (m j)) (fun v o'=>v= .bl true∧o'=seW n f cs i (O (j+1)) (b (j+1)) (m (j+1)))):
  CtrL Tryz.prog Y 87 [.raw (yv Y.L), .pptr [i64 r]] (seW n f cs i (O 0) (b 0) (m 0)) (fun _ o=>o=seW n f cs i (O (cnds r).length) (b (cnds r).length) (m (cnds r).length)):=by
 refine fn_introY (E:=env 9) tys_ok rfl rfl rfl Tryz.func87 (by kernel_rfl) rfl (by kernel_rfl) ?_
 have h0:=hY 0 0 rfl
 (repeat' (conv=>whnf);first|refine aC ?_ ?_<;>intro<;>try omega|refine z2_T11 ?_|refine YOb.mk rfl ?_|(refine YieldOb.mk 9 hm [0,1,2,3,4,5,6,7,8] h0 rfl (ImpL.refl _) rfl rfl rfl ?_;rintro _ _ ⟨rfl,rfl⟩)|fail);all_goals try (conv=>whnf)
 refine LoopOb.mk (Y:=Nat) (st:=fun k=>⟨[(3,i64 (1*2^k)),(4, .raw (yv Y.L)),(0, .raw (yv Y.L)),(1, .pptr [i64 r])],seW n f cs i (O (k+1)) (b (k+1)) (m (k+1))⟩)
  (inv:=fun k=>k≤8∧∀j,j<k→(1:Int)*2^j≤r) (fun k=>8-k) 0 [0,1,2,3,4,5,6,7,8] ⟨by omega,by omega⟩ (by(exact aL)) ?_
 rintro k ⟨hk,hp⟩
 have hat:=pws_at (f:=9) (x:=1) (by decide) hp (by omega)
 have hnx:(1:Int)*2^(k+1)=(1*2^k)*2:=by rw [Int.pow_succ];ac_rfl
 have h8:k=8→(1:Int)*2^k=256:=fun e=>by subst e;rfl
 have hpos:(0:Int)<1*2^k:=by rw [Int.one_mul];exact Int.pow_pos (by decide)
 have hp2:(1:Int)*2^k≤r→∀j,j<k+1→(1:Int)*2^j≤r:=fun h j hj=>by
  by_cases e:j=k
  ·subst e;exact h
  ·exact hp j (by omega)
 have hat2:(cnds r)[k+1]? =(pws r 9 1)[k]? :=rfl
 have hlen:(cnds r)[k+1]? =none→(cnds r).length =k+1:=fun h=>by
  have h1:=List.getElem?_eq_none_iff.1 h
  rcases Nat.eq_zero_or_pos k with e|e
  ·subst e;simp only [cnds,List.length_cons]at h1⊢;omega
  ·have h2:=pws_at (f:=9) (x:=1) (j:=k-1) (by decide) (fun j hj=>hp j (by omega)) (by omega)
   rw [if_pos (hp (k-1) (by omega))]at h2
   have:=(List.getElem?_eq_some_iff.1 h2).1
   simp only [cnds,List.length_cons]at h1⊢;omega
 rw [hat2,hat]at hlen
 have hYk:=hY (k+1) (1*2^k)
 rw [hat2,hat]at hYk
 generalize (1:Int)*2^k=x at*
 by_cases hxr:x≤r
 ·have hYk:=hYk (if_pos hxr)
  have hk8:k≠8:=fun e=>by have:=h8 e;omega
  (repeat' (conv=>whnf);first|refine aC ?_ ?_<;>intro<;>try omega|refine z2_T11 ?_|refine YOb.mk rfl ?_|(refine YieldOb.mk 9 hm [0,1,2,3,4,5,6,7,8] hYk rfl (ImpL.refl _) rfl rfl rfl ?_;rintro _ _ ⟨rfl,rfl⟩)|fail);all_goals try (conv=>whnf)
  exact⟨k+1,[0,1,2,3,4,5,6,7,8],⟨by omega,hp2 hxr⟩,by omega,by rw [hnx];(exact aL)⟩
 ·have hl:=hlen (if_neg hxr)
  (repeat' (conv=>whnf);first|refine aC ?_ ?_<;>intro<;>try omega|refine z2_T11 ?_|fail);all_goals try (conv=>whnf)
  rw [hl]
theorem z4_J8 {G H:Prop} (k:H) (h:H→G:=by first|exact fun r=>aS r|exact fun r=>aG r|exact fun r=>aD r|exact fun r=>aP_T11 r|exact fun r=>aI r|exact fun r=>aJ r|exact fun r=>aW (.qs [0,1] (.l 2 [1] (.qs [3,4] .nil) .no)) r):G:=h k
theorem z3_J8 {G H:Prop} (k:H) (h:H→G:=by first|exact fun r=>aS r|exact fun r=>aG r|exact fun r=>aD r|exact fun r=>aH r|exact fun r=>aP_T11 r|exact fun r=>aI r|exact fun r=>aJ r|exact fun r=>aW (.qs [0,1] (.l 2 [1] (.qs [3,4] .nil) .no)) r):G:=h k
theorem Search0_ok (n:Nt) (hn:NL n) (f:Int) (cs:List Int) (hcs:cs.length≤1000000) (r:Int) (hc:chkN n=0) (hf:0≤f∧f<n.fl.length) (hcl:cs.length=n.fl.length) (hr:0≤r∧r≤200) (hcb:∀x∈cs,0≤x∧x≤60):
  Ctr Tryz.prog 27 [ntv n,i64 f, .psl 1 (ints cs),i64 r] [] (fun y o=>o=[]∧y=sew (if(plG n f (srO n f cs r n.fl.length) cs).2 ≠0 then(at0,[],(plG n f (srO n f cs r n.fl.length) cs).2)else((plG n f (srO n f cs r n.fl.length) cs).1,srO n f cs r n.fl.length,0))):=by
 refine Ctr.imp ?_
 refine fn_introR (E:=env 0) tys_ok rfl rfl rfl Tryz.func27 (by kernel_rfl) rfl (by kernel_rfl) ?_
 have hcl2:=ints_len cs
 have hfl:=fll n.fl
 have hnf:=hn.fl
 have h10:=chk_n hc
 have cK:=Check_ok n hn
 rw [hc]at cK
 (repeat' (conv=>whnf);first|refine aC ?_ ?_<;>intro<;>try omega|refine z3_J8 ?_|(refine aK [] (cK) ?_)|fail);all_goals try (conv=>whnf)
 refine LoopOb.mk (Y:=Nat) (st:=fun i=>⟨[(55,i64 i),(54,i64 (ints cs).length),(53, .psl 1 (ints cs)),(8, .ptr 3 0),(6, .ptr 2 0),(5, .ptr 1 0),(4, .ptr 0 0),(3,i64 r)],[.box [.psl 1 (strs n.nm), .psl 5 (lns n.ln), .psl 8 (fls n.fl)], .box [i64 f], .box [.psl 1 (ints cs)], .box [.nil,i64 0,i64 0,i64 0]]⟩)
  (inv:=fun i=>i≤cs.length) (fun i=>cs.length-i) 0 [0,1,2,3] (by omega) (by(exact aL)) ?_
 rintro i hi
 by_cases hil:i<cs.length
 ·have hg:=ints_get (l:=cs) (j:=i) hil
  have hb:=hcb _ (Go.Np.getD_in (d:=0) hil)
  generalize cs.getD i 0=c at*
  (repeat' (conv=>whnf);first|refine⟨i,_,rfl,hg,?_⟩|refine aC ?_ ?_<;>intro<;>try omega|refine z3_J8 ?_|fail);all_goals try (conv=>whnf)
  exact⟨i+1,[0,1,2,3],by omega,by omega,by(exact aL)⟩
 obtain rfl:i=cs.length:=by omega
 (repeat' (conv=>whnf);first|refine aC ?_ ?_<;>intro<;>try omega|refine aS ?_|refine aG ?_|refine aD ?_|refine aH ?_|refine aP_T11 ?_|refine aI ?_|refine aJ ?_|refine⟨_,_,rfl,rfl,Nat.le_refl _,⟨by(simp only;omega),by omega⟩,?_⟩|refine aW (.qs [0,1] (.l 2 [1] (.qs [3,4] .nil) .no)) ?_|fail);all_goals try (conv=>whnf)
 refine LoopOb.mk (Y:=Nat) (st:=fun i=>⟨[(73,i64 i),(72,i64 n.fl.length),(13, .ptr 5 0),(8, .ptr 3 0),(6, .ptr 2 0),(5, .ptr 1 0),(4, .ptr 0 0),(3,i64 r)],seB n f cs++[.vec 1 (ints (srO n f cs r i)), .box [.vec 4]]⟩)
  (inv:=fun i=>i≤n.fl.length) (fun i=>n.fl.length-i) 0 [0,1,2,3,4,5] (by omega) (by
   rw [show ints (srO n f cs r 0)=List.replicate n.fl.length [i64 0]by simp [srO,ints]]
   simp only [List.length_replicate,hfl];(exact aL)) ?_
 rintro i hi
 have hsl:=srO_len n f cs r i
 have hnx:srO n f cs r (i+1)=(srO n f cs r i).set i (bsF (fun x=>plD n f ((srO n f cs r i).set i x) cs) (cnds r) (0,-2)).1 :=rfl
 obtain⟨O,hO⟩:∃O,srO n f cs r i=O:=⟨_,rfl⟩
 rw [hO]at hsl hnx⊢
 have hol:=ints_len O
 by_cases hil:i<n.fl.length
 ·(repeat' (conv=>whnf);first|refine aC ?_ ?_<;>intro<;>try omega|refine z4_J8 ?_|(refine Gh.mk [] ?_;(conv=>whnf);refine aK [] (Cand_ok r) ?_)|fail);all_goals try (conv=>whnf)
  refine .mk [] ?_
  obtain⟨L,hL⟩:∃L,cnds r=L:=⟨_,rfl⟩
  rw [hL]at hnx
  obtain⟨g,hg⟩:∃g,(fun x=>plD n f (O.set i x) cs)=g:=⟨_,rfl⟩
  rw [hg]at hnx
  refine RangeOb.mk 9 (L.map fun x=>[i64 x]) (fun j o=>o=seW n f cs i (if j=0 then O else O.set i (L.getD (j-1) 0)) (bsF g (L.take j) (0,-2)).1 (bsF g (L.take j) (0,-2)).2) (fun j o=>o=seW n f cs i (if j=0 then O else O.set i (L.getD (j-1) 0)) (bsF g (L.take j) (0,-2)).1 (bsF g (L.take j) (0,-2)).2) (fun j o=>o=seW n f cs i (if j=0 then O else O.set i (L.getD (j-1) 0)) (bsF g (L.take j) (0,-2)).1 (bsF g (L.take j) (0,-2)).2) (by kernel_rfl) (fun r hr=>by obtain⟨x,_,rfl⟩:=List.mem_map.1 hr;rfl) ?_ ?_ ?_
  ·intro Y hm hY
   have:=cand1_ok Y hm n f cs i r hr (fun j=>if j=0 then O else O.set i (L.getD (j-1) 0)) (fun j=>(bsF g (L.take j) (0,-2)).1) (fun j=>(bsF g (L.take j) (0,-2)).2) (fun j x hx=>hY j _ [i64 x] rfl (by rw [List.getElem?_map,←hL,hx];rfl))
   rw [hL]at this
   rw [List.length_map]
   exact this
  ·rintro j o r' rfl hr'
   rw [List.getElem?_map]at hr'
   cases hx:L[j]? with
   |none=>rw [hx]at hr';cases hr'
   |some x=>
    rw [hx]at hr';cases hr'
    have hjl:j<L.length:=(List.getElem?_eq_some_iff.1 hx).1
    have htk:L.take (j+1)=L.take j++[x]:=by rw [List.take_succ_eq_append_getElem hjl,(List.getElem?_eq_some_iff.1 hx).2]
    have hgx:g x=plD n f (O.set i x) cs:=by rw [←hg]
    have hLx:L.getD (j+1-1) 0=x:=by rw [Nat.add_sub_cancel,List.getD_eq_getElem?_getD,hx];rfl
    have hset:(if j=0 then O else O.set i (L.getD (j-1) 0)).set i x=O.set i x:=by split<;>simp
    have hjO:(if j=0 then O else O.set i (L.getD (j-1) 0)).length =n.fl.length:=by split<;>simp [hsl]
    rw [htk,bsF_snoc,hLx,if_neg (show¬j+1=0 by omega),hgx]
    have hxl:(O.set i x).length =n.fl.length:=by rw [List.length_set];exact hsl
    have cP:=PlayV_ok n hn f (O.set i x) cs (by omega) hcs
    generalize (if j=0 then O else O.set i (L.getD (j-1) 0))=Oj at*
    generalize bsF g (L.take j) (0,-2)=B at*
    obtain⟨b,m⟩:=B
    unfold plD
    generalize plG n f (O.set i x) cs=A at*
    obtain⟨A,ae⟩:=A
    dsimp only at cP⊢
    obtain⟨D,hD,hDc⟩:∃D:Int,(if ae=0 then A.d else-1)=D∧(ae=0∧D=A.d∨¬ae=0∧D= -1):=by
     by_cases h:ae=0
     ·exact⟨_,if_pos h, .inl ⟨h,rfl⟩⟩
     ·exact⟨_,if_neg h, .inr ⟨h,rfl⟩⟩
    obtain⟨b',m',hif,hbc⟩:∃b' m':Int,(if m<D then(x,D)else(b,m))=(b',m')∧(m<D∧b'=x∧m'=D∨¬m<D∧b'=b∧m'=m):=by
     by_cases h:m<D
     ·exact⟨_,_,if_pos h, .inl ⟨h,rfl,rfl⟩⟩
     ·exact⟨_,_,if_neg h, .inr ⟨h,rfl,rfl⟩⟩
    rw [hD,hif]
    have hio:ints (O.set i x)=(ints Oj).set i [i64 x]:=by rw [←hset];simp [ints]
    rw [hio]at cP
    have hjl2:=ints_len Oj
    have hgO:=ints_get (l:=Oj) (j:=i) (by omega)
    (repeat' (conv=>whnf);first|refine⟨_,hgO,?_⟩|refine⟨i,rfl,by omega,?_⟩|refine aC ?_ ?_<;>intro<;>try omega|refine z4_J8 ?_|(refine Gh.mk [] ?_;(conv=>whnf);refine aK [4] cP ?_)|fail);all_goals try (conv=>whnf)
    all_goals
     refine .mk [.wk [0,1,2,3,4,5,6,7,8] ⟨[],seW n f cs i (O.set i x) b' m'⟩] ⟨by dsimp only [seW];rw [hio];(exact aL),?_⟩
     (repeat' (conv=>whnf);first|refine aC ?_ ?_<;>intro<;>try omega|refine z3_J8 ?_|fail);all_goals try (conv=>whnf)
  ·rintro o rfl
   rw [List.length_map,List.take_length]
   have hset:∀z,(if L.length=0 then O else O.set i (L.getD (L.length-1) 0)).set i z=O.set i z:=fun z=>by split<;>simp
   have hjO:(if L.length=0 then O else O.set i (L.getD (L.length-1) 0)).length =n.fl.length:=by split<;>simp [hsl]
   generalize (if L.length=0 then O else O.set i (L.getD (L.length-1) 0))=Oj at*
   generalize bsF g L (0,-2)=B at*
   obtain⟨b,m⟩:=B
   have hgO:=ints_get (l:=Oj) (j:=i) (by omega)
   have hjl2:=ints_len Oj
   (repeat' (conv=>whnf);first|refine⟨_,hgO,?_⟩|refine⟨i,rfl,by omega,?_⟩|refine aC ?_ ?_<;>intro<;>try omega|refine z3_J8 ?_|fail);all_goals try (conv=>whnf)
   exact⟨i+1,[0,1,2,3,4,5],by omega,by omega,by
    rw [hnx,←hset,show ints (Oj.set i (b,m).1)=(ints Oj).set i [i64 b]by simp [ints]];(exact aL)⟩
 ·obtain rfl:i=n.fl.length:=by omega
  have cP:=PlayV_ok n hn f O cs (by omega) hcs
  rw [hO]
  generalize plG n f O cs=A at*
  obtain⟨A,e⟩:=A
  dsimp only at cP⊢
  by_cases he:e=0
  ·subst he
   rw [if_neg (by simp)]
   (repeat' (conv=>whnf);first|refine aC ?_ ?_<;>intro<;>try omega|refine z4_J8 ?_|(refine Gh.mk [] ?_;(conv=>whnf);refine aK [4] cP ?_)|fail);all_goals try (conv=>whnf)
   refine .mk [.fz 4] ?_
   (repeat' (conv=>whnf);first|refine aC ?_ ?_<;>intro<;>try omega|refine z3_J8 ?_|fail);all_goals try (conv=>whnf)
   exact⟨rfl,Imp.refl _⟩
  ·rw [if_pos he]
   (repeat' (conv=>whnf);first|refine AsgOb.nil ?_|refine aC ?_ ?_<;>intro<;>try omega|refine z3_J8 ?_|(refine aK [4] cP ?_)|fail);all_goals try (conv=>whnf)
   exact⟨rfl,Imp.tup ⟨Imp.agg ⟨Imp.nil _,Imp.refl _,Imp.refl _,Imp.refl _,trivial⟩,Imp.nil _,Imp.refl _,trivial⟩⟩
end
section
open Go.Sx Go.Cv
theorem val_bd {vs:List Int} {p:Nat} {q:Int} (hb:Bd vs p q) {t:Nat} (ht:t≤1048576):0≤val vs p q t∧val vs p q t≤6000000000000000000:=by
 obtain⟨p1,pn,hn,q0,q1,hv⟩:=hb
 by_cases h:t<vs.length
 ·rw [val_lt h];have:=hv t;omega
 ·simp only [val]
  rw [if_neg h]
  have hd:(t-vs.length)/p≤t-vs.length:=Nat.div_le_self _ _
  generalize (t-vs.length)/p=k at*
  have hkq:=mul_bd (a:=((k+1:Nat):Int)) (b:=q) (A:=1048577) (B:=1099511627776) (by omega) (by omega) (by omega) (by omega)
  have hv1:=hv (t-(k+1)*p)
  split<;>omega
theorem z2_R2 {G H:Prop} (k:H) (h:H→G:=by first|exact fun r=>aS r|exact fun r=>aG r|exact fun r=>aD r|exact fun r=>aH r|exact fun r=>aP_R1 r|exact fun r=>aI r|exact fun r=>aJ r|exact fun r=>aW (.qs [0,1,2,3,5,6,8,9,10,11,12,13,14] (.l 4 [13,9,5] (.l 7 [13,9] (.qs [15,16] .nil) .no) .no)) r):G:=h k
theorem periodic_ok (vs:List Int) (P:Nat) (Q:Int) (s p:Nat) (hb:Bd vs P Q) (hp:1≤p) (hpP:p≤P) (hs:s≤10000):
  Ctr Tryz.prog 223 [crv vs P Q,i64 s,i64 p] [] (fun r o=>o=[]∧r= .bp (Fits (val vs P Q) s P Q p)):=by
 refine Ctr.imp ?_
 have p1:=hb.p1
 have pn:=hb.pn
 have hn:=hb.n
 have q0:=hb.q0
 have q1:=hb.q1
 have hQp:=mul_bd (a:=Q) (b:=(p:Int)) (A:=1099511627776) (B:=2000) (by omega) (by omega) (by omega) (by omega)
 have hd:=tdiv_bd (a:=Q*p) (b:=(P:Int)) (by omega) (by omega)
 have hm:=tmod_bd (a:=Q*p) (b:=(P:Int)) (by omega) (by omega)
 have hm2:(P:Int).tmod p=((P%p:Nat):Int):=by rw [Int.tmod_eq_emod_of_nonneg (by omega)];rfl
 refine fI 0 Tryz.func223 ?_
 (repeat' (conv=>whnf);first|refine aC ?_ ?_<;>intro _|refine z1_R1 ?_|fail);all_goals try (conv=>whnf)
 refine⟨by omega,?_⟩
 rw [hm2]
 (repeat' (conv=>whnf);first|refine aC ?_ ?_<;>intro _|refine z1_R1 ?_|fail);all_goals try (conv=>whnf)
 ·exact⟨rfl,Imp.bl ⟨fun h=>(by cases h),fun h=>by have:=h.1;omega⟩⟩
 refine⟨by omega,?_⟩
 rw [hm.1]
 (repeat' (conv=>whnf);first|refine aC ?_ ?_<;>intro _|refine z1_R1 ?_|fail);all_goals try (conv=>whnf)
 ·exact⟨rfl,Imp.bl ⟨fun h=>(by cases h),fun h=>by have:=h.2.1;omega⟩⟩
 refine LoopOb.mk (Y:=Nat) (st:=fun j=>⟨[(1,i64 s),(2,i64 p),(3, .ptr 0 0),(7,i64 j)],[.box [.psl 1 (ints vs),i64 P,i64 Q]]⟩)
  (inv:=fun j=>s≤j∧j≤s+P∧∀t,s≤t→t<j→val vs P Q (t+p)=val vs P Q t+Q*p/P) (fun j=>s+P-j) s [0] ⟨by omega,by omega,fun t h1 h2=>by omega⟩ (by(exact aL)) ?_
 rintro j ⟨h1,h2,h3⟩
 (repeat' (conv=>whnf);first|refine aC ?_ ?_<;>intro _|refine z2_R2 ?_|fail);all_goals try (conv=>whnf)
 ·refine⟨by omega,?_⟩
  rw [hd.1]
  (repeat' (conv=>whnf);first|refine aC ?_ ?_<;>intro _|refine z1_R1 ?_|fail);all_goals try (conv=>whnf)
  refine aM [] (At_ok _ _ _ _ hb (by omega) (by omega)) rfl rfl ?_
  rintro _ _ ⟨rfl,rfl⟩
  (repeat' (conv=>whnf);first|refine aC ?_ ?_<;>intro _|refine z1_R1 ?_|fail);all_goals try (conv=>whnf)
  refine aM [] (At_ok _ _ _ _ hb (by omega) (by omega)) rfl rfl ?_
  rintro _ _ ⟨rfl,rfl⟩
  rw [show((j:Int)+p).toNat =j+p by omega]
  simp only [Int.toNat_natCast]
  have b1:=val_bd hb (t:=j) (by omega)
  have b2:=val_bd hb (t:=j+p) (by omega)
  (repeat' (conv=>whnf);first|refine aC ?_ ?_<;>intro _|refine z1_R1 ?_|fail);all_goals try (conv=>whnf)
  ·exact⟨rfl,Imp.bl ⟨fun h=>(by cases h),fun h=>absurd (h.2.2 j h1 (by omega)) (by assumption)⟩⟩
  ·refine⟨j+1,[0],⟨by omega,by omega,fun t ht1 ht2=>?_⟩,by omega,by(exact aL)⟩
   by_cases htj:t=j
   ·subst htj
    exact Classical.not_not.1 (by assumption)
   ·exact h3 t ht1 (by omega)
 ·exact⟨rfl,Imp.bl ⟨fun _=>⟨by omega,by omega,fun t ht1 ht2=>h3 t ht1 (by omega)⟩,fun _=>rfl⟩⟩
end
end Go.Proofs.YtjhmjiimpmmnhaaGreat
