/- Lemmas of this seat. Conditions: as stated. -/
import Derived.Test.YtjhmjiimpmmnhaaGreatR1
import Derived.Test.YtjhmjiimpmmnhaaGreatGs
import Derived.Test.YtjhmjiimpmmnhaaGreatPl
import Derived.Test.YtjhmjiimpmmnhaaGreatO1
import Derived.Test.YtjhmjiimpmmnhaaGreatNw
import Derived.Test.YtjhmjiimpmmnhaaGreatMtt
import Derived.Test.YtjhmjiimpmmnhaaGreatSo7
import Derived.Test.YtjhmjiimpmmnhaaGreatN13
import Derived.Test.YtjhmjiimpmmnhaaGreatN6
import Derived.Test.YtjhmjiimpmmnhaaGreatSxC
set_option linter.unusedVariables false
set_option linter.unusedSimpArgs false
set_option maxHeartbeats 2000000
set_option maxRecDepth 4000
section
namespace Go.Gd
open Go.Cv Go.Mc Go.Pk Go.St
theorem rmP_sh {V:Nat→Int} {s k:Int} {ts:List Int} {x:Int}:rmP V s (ts.map (· +k)) (x+k)↔rmP V s ts x:=by
 have hg:∀i,i<ts.length+1→((ts.map (· +k))++[x+k]).getD i 0=(ts++[x]).getD i 0+k:=fun i hi=>by
  by_cases h:i<ts.length
  ·rw [getD_app (by simpa using h),getD_app h];simp [List.getD_eq_getElem?_getD,h]
  ·obtain rfl:i=ts.length:=by omega
   have:=getD_last (ts:=ts.map (· +k)) (t:=x+k)
   rw [List.length_map]at this
   rw [this,getD_last]
 unfold rmP
 rw [List.length_map]
 constructor
 ·intro h i hi
  have:=h i hi
  rw [hg i hi,show x+k+1-((ts++[x]).getD i 0+k)=x+1-(ts++[x]).getD i 0 by omega]at this
  exact this
 ·intro h i hi
  rw [hg i hi,show x+k+1-((ts++[x]).getD i 0+k)=x+1-(ts++[x]).getD i 0 by omega]
  exact h i hi
theorem gre_shift {V:Nat→Int} {s:Int} {n:Nat} {o k:Int} {ts us:List Int} {t u:Int} (g:GrC V s n o ts t) (ge:ts.length<n→380<t) (h:GrC V s n (o+k) us u) (he:us.length<n→380<u) (hk:0≤k) (hb:∀i,i<ts.length→ts.getD i 0+k≤380):us=ts.map (· +k):=by
 have key:∀i,i≤ts.length→i≤us.length∧us.take i=(ts.take i).map (· +k):=by
  intro i
  induction i with
  |zero=>intro _;exact⟨by omega,by simp⟩
  |succ i ih=>
   intro hi
   obtain⟨h1,h2⟩:=ih (by omega)
   have hrm:=(rmP_sh (k:=k)).2 (g.rm i (by omega))
   rw [←h2]at hrm
   have hbi:=hb i (by omega)
   have hge:=g.ge i (by omega)
   have hls:lstT (o+k) us i=lstT o ts i+k:=by
    unfold lstT
    split
    ·rfl
    ·rename_i h0
     have e1:(us.take i).getD (i-1) 0=us.getD (i-1) 0:=by simp only [List.getD_eq_getElem?_getD];rw [List.getElem?_take_of_lt (by omega)]
     have e2:((ts.take i).map (· +k)).getD (i-1) 0=ts.getD (i-1) 0+k:=by
      have:i-1<(ts.take i).length :=by rw [List.length_take];omega
      simp [List.getD_eq_getElem?_getD,show i-1<i by omega,show i-1<ts.length by omega]
     rw [←e1,h2,e2]
   have hlt:i<us.length:=by
    apply Classical.byContradiction
    intro hn
    have e:us.length=i:=by omega
    have h380:=he (by have:=g.l;omega)
    have hf:us.take i=us:=List.take_of_length_le (by omega)
    rw [hf]at hrm
    exact h.nt (ts.getD i 0+k) (by rw [e,hls];omega) (by omega) hrm
   have hue:us.getD i 0=ts.getD i 0+k:=by
    rcases Int.lt_trichotomy (us.getD i 0) (ts.getD i 0+k)with hc|hc|hc
    ·exfalso
     have hr:=h.rm i hlt
     rw [h2,show us.getD i 0=(us.getD i 0-k)+k by omega,rmP_sh]at hr
     have:=h.ge i hlt
     exact g.no i (by omega) _ (by omega) (by omega) hr
    ·exact hc
    ·exfalso
     exact h.no i hlt _ (by rw [hls];omega) hc hrm
   refine⟨hlt,?_⟩
   rw [List.take_succ_eq_append_getElem hlt,List.take_succ_eq_append_getElem (by omega:i<ts.length),h2,List.map_append,List.map_cons,List.map_nil]
   rw [List.getD_eq_getElem?_getD,List.getElem?_eq_getElem hlt,List.getD_eq_getElem?_getD,List.getElem?_eq_getElem (by omega:i<ts.length)]at hue
   simp only [Option.getD_some]at hue
   rw [hue]
 obtain⟨h1,h2⟩:=key ts.length (Nat.le_refl _)
 rw [List.take_length]at h2
 by_cases hl:us.length=ts.length
 ·rw [←h2,←hl,List.take_length]
 ·exfalso
  have hlt:ts.length<us.length:=by omega
  have hln:=h.l
  have h380:=ge (by omega)
  have hr:=h.rm ts.length hlt
  have hle:=h.le ts.length hlt
  have hge:=h.ge ts.length hlt
  have hls:lstT (o+k) us ts.length=lstT o ts ts.length+k:=by
   unfold lstT
   split
   ·rfl
   ·rename_i h0
    have e1:(us.take ts.length).getD (ts.length-1) 0=us.getD (ts.length-1) 0:=by simp only [List.getD_eq_getElem?_getD];rw [List.getElem?_take_of_lt (by omega)]
    rw [←e1,h2]
    simp [List.getD_eq_getElem?_getD,show ts.length-1<ts.length by omega]
  rw [h2,show us.getD ts.length 0=(us.getD ts.length 0-k)+k by omega,rmP_sh]at hr
  exact g.nt _ (by omega) (by omega) hr
theorem gre_near {V:Nat→Int} {s:Int} {n:Nat} {o:Int} {ts:List Int} {t:Int} {d:Nat} (g:GrC V s n o ts t) (hV:(∀x,1≤x→V x=V 1)∨(∀x,1≤x→V x+s≤V (x+d))):∀i,i<ts.length→ts.getD i 0≤o+d*i:=by
 intro i
 induction i with
 |zero=>
  intro hi
  have hr:=(rmP_take hi _).1 (g.rm 0 hi)
  refine Int.not_lt.1 fun hc=>?_
  exact g.no 0 hi o (by simp [lstT]) (by omega) ((rmP_take hi _).2 ⟨hr.1,fun k hk=>by omega⟩)
 |succ i ih=>
  intro hi
  have h1:=ih (by omega)
  have hr:=(rmP_take hi _).1 (g.rm (i+1) hi)
  have hr0:=(rmP_take (by omega:i<ts.length) _).1 (g.rm i (by omega))
  have hl:lstT o ts (i+1)=ts.getD i 0:=by simp [lstT]
  have hge:=g.ge (i+1) hi
  rw [hl]at hge
  have hmono:=g.mono i
  refine Int.not_lt.1 fun hc=>?_
  have e:(o+d*((i+1:Nat):Int))=o+d*i+d:=by push_cast;rw [Int.mul_add,Int.mul_one];omega
  rw [e]at hc
  rcases hV with hV|hV
  ·refine g.no (i+1) hi (ts.getD i 0) (by rw [hl];omega) (by omega) ((rmP_take hi _).2 ⟨hr.1,fun k hk=>?_⟩)
   have h2:=hr.2 k hk
   have hm:=hmono k (by omega) (by omega)
   rw [hV _ (by omega)]at h2⊢
   exact h2
  ·refine g.no (i+1) hi (ts.getD i 0+d) (by rw [hl];omega) (by omega) ((rmP_take hi _).2 ⟨hr.1,fun k hk=>?_⟩)
   have hm:=hmono k (by omega) (by omega)
   have hb:(((i+1:Nat):Int)-k+1)*s=((i:Int)-k+1)*s+s:=by
    rw [show((i+1:Nat):Int)-k+1=((i:Int)-k+1)+1 by omega,Int.add_mul,Int.one_mul]
   rw [hb]
   have hv:=hV (ts.getD i 0+1-ts.getD k 0).toNat (by omega)
   rw [show(ts.getD i 0+d+1-ts.getD k 0).toNat =(ts.getD i 0+1-ts.getD k 0).toNat +d by omega]
   by_cases hki:k=i
   ·subst hki
    have h2:=hr0.1
    rw [show((k:Int)-k+1)*s=s by rw [show(k:Int)-k+1=1 by omega,Int.one_mul]]
    rw [show(ts.getD k 0+1-ts.getD k 0).toNat =1 by omega]at hv⊢
    omega
   ·have h2:=hr0.2 k (by omega)
    omega
theorem insR_map {α:Type} {k:α→Int} {g:α→α} (hg:∀x y,k (g x)<k (g y)↔k x<k y) (x:α):∀R:List α,insR k (g x) (R.map g)=(insR k x R).map g
 |[]=>rfl
 |y::r=>by
  simp only [List.map_cons,insR]
  by_cases h:k x<k y
  ·rw [if_pos h,if_pos ((hg x y).2 h),insR_map hg x r];rfl
  ·rw [if_neg h,if_neg fun c=>h ((hg x y).1 c)];rfl
theorem srt_map {α:Type} {k:α→Int} {g:α→α} (hg:∀x y,k (g x)<k (g y)↔k x<k y) (l:List α):srt k (l.map g)=(srt k l).map g:=by
 have:∀(l R:List α),(l.map g).foldl (fun R x=>insR k x R) (R.map g)=(l.foldl (fun R x=>insR k x R) R).map g:=by
  intro l
  induction l with
  |nil=>intro R;rfl
  |cons x l ih=>intro R;simp only [List.map_cons,List.foldl_cons];rw [insR_map hg,ih]
 have h:=this l []
 unfold srt srtR
 rw [List.map_nil]at h
 rw [h,List.map_reverse]
theorem srt_shP (k:Nat) (l:List Pk):srt (fun x:Pk=>x.t) (shP k l)=shP k (srt (fun x:Pk=>x.t) l):=srt_map (fun x y=>by simp only;omega) l
theorem stair_near {b q:Int} {p:Nat} (p1:1≤p) (p2:p∣12) (b1:0≤b) (b2:b≤1000000) (q1:0≤q) {s:Int} (hs:s≤7):
  (∀x,1≤x→val (0::List.replicate p b) p q x=val (0::List.replicate p b) p q 1)∨(∀x,1≤x→val (0::List.replicate p b) p q x+s≤val (0::List.replicate p b) p q (x+84)):=by
 have hl:(0::List.replicate p b).length =p+1:=by simp
 have hgd:∀j,1≤j→j≤p→(0::List.replicate p b).getD j 0=b:=fun j h1 h2=>by
  obtain⟨j,rfl⟩:∃m,j=m+1:=⟨j-1,by omega⟩
  rw [List.getD_cons_succ,List.getD_eq_getElem?_getD,List.getElem?_replicate,if_pos (by omega)];rfl
 have hP:=val_per (vs:=0::List.replicate p b) (p:=p) (q:=q) p1 (by omega) fun t h1 h2=>by
  rw [hl]at h1 h2
  rw [hgd t (by omega) (by omega)];simp only [INF];omega
 rw [hl,show p+1-p=1 by omega]at hP
 by_cases hq:q=0
 ·refine .inl fun x hx=>?_
  have base:∀x,1≤x→x≤p→val (0::List.replicate p b) p q x=b:=fun x h1 h2=>by
   rw [val_lt (by rw [hl];omega),hgd x h1 h2]
  have all:∀x,1≤x→val (0::List.replicate p b) p q x=b:=by
   intro x
   induction x using Nat.strongRecOn with
   |ind x ih=>
    intro h1
    by_cases h:x≤p
    ·exact base x h1 h
    ·have:=hP (x-p) (by omega)
     rw [Nat.sub_add_cancel (by omega),hq]at this
     rw [hq]at ih⊢
     rw [this,ih (x-p) (by omega) (by omega)];omega
  rw [all x hx,all 1 (by omega)]
 ·refine .inr fun x hx=>?_
  obtain⟨j,hj⟩:=p2
  have h1:=hP.mul (7*j) x hx
  rw [show 7*j*p=84 by rw [Nat.mul_assoc,Nat.mul_comm j p,←hj]]at h1
  rw [h1]
  have hj1:1≤j:=by
   rcases Nat.eq_zero_or_pos j with h|h
   ·subst h;omega
   ·exact h
  have:(7:Int)*1≤((7*j:Nat):Int)*q:=Int.mul_le_mul (by omega) (by omega) (by omega) (by omega)
  omega
end Go.Gd
end
namespace Go.Proofs.YtjhmjiimpmmnhaaGreat
section
open Go.Sx Go.Cv Go.Gd Go.Np Go.Pk Go.St Go.Mc
theorem so_gre {m k:Nat} {f:Fl} (hf:FlG m k f) {o c:Int} (ho:0≤o∧o≤5) (hc:0≤c∧c≤4):∃ts,greG f.v f.p f.q f.hi o c=(ts,0)∧ts.length≤4∧(∀x∈ts,0≤x∧x≤341)∧∀d:Nat,d≤19→greG f.v f.p f.q f.hi (o+d) c=(ts.map (· +(d:Int)),0):=by
 have hv:=hf.valid.1
 have hlo:=hf.lo
 have hhi:=hf.hi
 obtain⟨b,b1,b2,p1,⟨p2,p3⟩,e,q1,q2⟩:=hf.ct
 have hg:∀x:Int,0≤x→x≤200→greG f.v f.p f.q f.hi x c=(gre (val f.v f.p.toNat f.q) f.hi c.toNat [] x,0):=fun x h1 h2=>by
  unfold greG
  rw [if_neg (fun h=>h hv),if_neg (by omega)]
 obtain⟨p,hp⟩:=Int.eq_ofNat_of_zero_le (show 0≤f.p by omega)
 have hdv:p∣12:=by
  rw [hp]at p3
  exact Int.natCast_dvd_natCast.1 p3
 have hnear:=stair_near (b:=b) (q:=f.q) (p:=p) (by omega) hdv (by omega) (by omega) q1 (s:=f.hi) (by omega)
 have e:f.v=0::List.replicate p b:=by rw [e,hp,Int.toNat_natCast]
 rw [e,hp,Int.toNat_natCast]at hg
 rw [hp,e]
 obtain⟨u,g,ge⟩:=gre_sp (val (0::List.replicate p b) p f.q) f.hi c.toNat o
 have hn:=gre_near g hnear
 have hl:=g.l
 have hb:∀i,i<(gre (val (0::List.replicate p b) p f.q) f.hi c.toNat [] o).length →(gre (val (0::List.replicate p b) p f.q) f.hi c.toNat [] o).getD i 0≤257:=fun i hi=>by
  have:=hn i hi
  have:((84:Nat):Int)*(i:Int)≤84*3:=Int.mul_le_mul_of_nonneg_left (by omega) (by decide)
  omega
 refine⟨_,hg o (by omega) (by omega),by omega,fun x hx=>?_,fun d hd=>?_⟩
 ·have h1:=(g.bd hx).1
  obtain⟨i,hi,rfl⟩:=List.getElem_of_mem hx
  have:=hb i hi
  rw [List.getD_eq_getElem?_getD,List.getElem?_eq_getElem hi]at this
  simp only [Option.getD_some]at this
  omega
 ·obtain⟨u',g',ge'⟩:=gre_sp (val (0::List.replicate p b) p f.q) f.hi c.toNat (o+d)
  rw [hg (o+d) (by omega) (by omega),gre_shift g ge g' ge' (by omega) fun i hi=>by have:=hb i hi;omega]
theorem so_bld {n:Nt} {m k:Nat} (hf:∀f∈n.fl,FlG m k f) {os cs:List Int} (hol:os.length=n.fl.length) (ho:∀x∈os,0≤x∧x≤5) (hcl:cs.length=n.fl.length) (hcb:∀x∈cs,0≤x∧x≤4) {d:Nat} (hd:d≤19):
  ∀i,i≤n.fl.length→bldE n os cs i=0∧bldE n (os.map (· +(d:Int))) cs i=0∧bldL n (os.map (· +(d:Int))) cs i=shP d (bldL n os cs i)∧(bldL n os cs i).length ≤4*i∧∀x∈bldL n os cs i,(0≤x.f∧x.f<i)∧(0≤x.t∧x.t≤341)∧x.s=(pfl n x).hi
 |0,_=>⟨rfl,rfl,rfl,by simp [bldL],by simp [bldL]⟩
 |i+1,hi=>by
  obtain⟨h1,h2,h3,h4,h5⟩:=so_bld hf hol ho hcl hcb hd i (by omega)
  obtain⟨ts,e1,e2,e3,e4⟩:=so_gre (hf _ (Go.Np.getD_in (d:=fl0) (show i<n.fl.length by omega))) (o:=os.getD i 0) (c:=cs.getD i 0) (ho _ (Go.Np.getD_in (by omega))) (hcb _ (Go.Np.getD_in (by omega)))
  have eo:(os.map (· +(d:Int))).getD i 0=os.getD i 0+d:=by simp [List.getD_eq_getElem?_getD,show i<os.length by omega]
  have e5:=e4 d hd
  refine⟨?_,?_,?_,?_,?_⟩
  ·simp only [bldE];rw [if_neg (by omega),e1]
  ·simp only [bldE];rw [if_neg (by omega),eo,e5]
  ·simp only [bldL,bldF]
   rw [eo,e1,e5,h3]
   simp [shP,Function.comp_def]
  ·simp only [bldL,bldF]
   rw [e1,List.length_append,List.length_map]
   simp only
   omega
  ·intro x hx
   simp only [bldL,bldF]at hx
   rw [e1]at hx
   rcases List.mem_append.1 hx with hx|hx
   ·have:=h5 x hx
    exact⟨by omega,this.2⟩
   ·obtain⟨t,ht,rfl⟩:=List.mem_map.1 hx
    refine⟨by simp only;omega,e3 t ht,?_⟩
    show(n.fl.getD i fl0).hi =(n.fl.getD ((i:Int)).toNat fl0).hi
    rw [Int.toNat_natCast]
theorem srt_lst {p:List Pk} (h:Srt ptm p) {i:Nat} (hi:i<p.length) (h0:∀x∈p,0≤x.t):Go.Pk.lst p i≤(p.getD i pk0).t :=by
 have key:∀(p:List Pk),Srt ptm p→∀i,i+1<p.length→(p.getD i pk0).t ≤(p.getD (i+1) pk0).t :=by
  intro p
  induction p with
  |nil=>intro _ i hi;simp at hi
  |cons x p ih=>
   intro hs i hi
   cases i with
   |zero=>exact hs.1 _ (Go.Np.getD_in (by simpa using hi))
   |succ i=>exact ih hs.2 i (by simpa using hi)
 cases i with
 |zero=>
  have:=h0 _ (Go.Np.getD_in (d:=pk0) hi)
  simpa [Go.Pk.lst]using this
 |succ i=>
  have:=key p h i hi
  simpa [Go.Pk.lst]using this
theorem so_sk {n:Nt} {m k:Nat} (hf:∀f∈n.fl,FlG m k f) (hc:chkN n=0) {L:List Pk} (hl:L.length≤60) {T:Int} (hT:T≤380) (hb:∀x∈L,(0≤x.f∧x.f<n.fl.length)∧(0≤x.t∧x.t≤T)∧x.s=(pfl n x).hi):SkP n (srt ptm L):=by
 have hm:∀i,i<(srt ptm L).length →(srt ptm L).getD i pk0∈L:=fun i hi=>srt_mem.1 (Go.Np.getD_in hi)
 refine⟨hc,by rw [srt_len];exact hl,fun i hi=>?_,fun i hi=>srt_lst (srt_sorted _ _) hi fun x hx=>(hb x (srt_mem.1 hx)).2.1.1⟩
 have:=hb _ (hm i hi)
 generalize (srt ptm L).getD i pk0=x at*
 have hfx:=hf (pfl n x) (by unfold pfl;exact Go.Np.getD_in (by omega))
 have:=hfx.hi
 unfold bdP
 omega
end
section
open Go.Sx Go.Cv Go.Gd Go.Np Go.Pk Go.St Go.Mc
theorem sumN_bd {f:Nat→Nat} {B:Nat}:∀{m:Nat},(∀i,i<m→f i≤B)→sumN f m≤B*m
 |0,_=>by simp [sumN]
 |m+1,h=>by
  have:=sumN_bd (f:=f) (B:=B) (m:=m) fun i hi=>h i (by omega)
  have:=h m (by omega)
  simp only [sumN]
  rw [Nat.mul_add,Nat.mul_one];omega
theorem toF_sh {n:Nt} {P:List Pk} {d:Nat}:toF n (shP d P)=shF d (toF n P):=by
 have hp:∀i,((shP d P).getD i pk0).f =(P.getD i pk0).f ∧((shP d P).getD i pk0).s =(P.getD i pk0).s ∧((shP d P).getD i pk0).t =if i<P.length then(P.getD i pk0).t +d else(P.getD i pk0).t :=fun i=>by
  by_cases h:i<P.length
  ·rw [shP_at h,if_pos h];exact⟨rfl,rfl,rfl⟩
  ·rw [(shP_out h).1,(shP_out (k:=d) h).2,if_neg h];exact⟨rfl,rfl,rfl⟩
 unfold toF shF pfl
 simp only [hp,shP_len]
structure SoN (n:Nt) (k:Nat):Prop where
 g:NtG k n
 c:chkN n=0
 k:∀l∈n.ln,l.k=1∨l.k=2
theorem SoN.busy {n:Nt} {k:Nat} (h:SoN n k) {P:List Pk} (hS:SkP n P) {N l:Nat} (hl:l<n.ln.length):1≤(liN n).c l∧Tin ((liN n).C l)∧∀(t i:Nat),i<(pkq (toF n P) (qu (toF n P) (tr (toF n P) (liN n) N) l)).length →tm (pkq (toF n P) (qu (toF n P) (tr (toF n P) (liN n) N) l)) i≤t→(run ((liN n).C l) (pkq (toF n P) (qu (toF n P) (tr (toF n P) (liN n) N) l)) ((liN n).c l) t).dn i= -1→(sel ((liN n).C l) (pkq (toF n P) (qu (toF n P) (tr (toF n P) (liN n) N) l)) t ((liN n).c l) (run ((liN n).C l) (pkq (toF n P) (qu (toF n P) (tr (toF n P) (liN n) N) l)) ((liN n).c l) t)).2 ≠none:=by
 have hm:=Go.Np.getD_in (d:=ln0) hl
 obtain⟨hle,hlk⟩:=h.g.le _ hm
 have hk:=h.k _ hm
 have hC:(liN n).C l=chL (n.ln.getD l ln0):=rfl
 have hc:(liN n).c l=(n.ln.getD l ln0).c.toNat :=rfl
 have hcc:1≤(n.ln.getD l ln0).c :=by
  unfold lnErr at hle
  split at hle
  ·cases hle
  ·split at hle
   ·cases hle
   ·omega
 have hA:=pkq_asc (F:=toF n P) (qu_ok (toF n P) (tr (toF n P) (liN n) N) l).o
 have hcl:∀i,i<(pkq (toF n P) (qu (toF n P) (tr (toF n P) (liN n) N) l)).length →0≤cl (pkq (toF n P) (qu (toF n P) (tr (toF n P) (liN n) N) l)) i∧cl (pkq (toF n P) (qu (toF n P) (tr (toF n P) (liN n) N) l)) i<k:=fun i hi=>by
  rw [pkq_len]at hi
  unfold cl
  rw [pkq_at hi]
  have h1:_<P.length:=(((qu_ok (toF n P) _ l).m _).1 (List.getElem_mem hi)).1
  obtain⟨f1,f2,_⟩:=hS.fl h1
  exact(h.g.fg _ (Go.Np.getD_in (show _<n.fl.length by omega))).cl
 rw [hC,hc]
 refine⟨by omega,?_⟩
 unfold chL
 rcases hk with e|e
 ·rw [if_pos e]
  exact⟨fifo_tin,fun t i h1 h2 h3=>fifo_busy1 hA h1 h2 h3⟩
 ·rw [if_neg (by omega),if_pos e]
  refine⟨prio_tin _,fun t i h1 h2 h3=>prio_busy1 hA (by have:=hcl i h1;omega) h1 h2 h3⟩
theorem so_tr {n:Nt} {k:Nat} (h:SoN n k) {P:List Pk} (hS:SkP n P) (h12:P.length≤20) (hb:∀i,i<P.length→(P.getD i pk0).t ≤341∧1≤(P.getD i pk0).s ∧(P.getD i pk0).s ≤7) {d:Nat} (hd:d≤19):
  ∀i h,i<P.length→h<((toF n P).rt i).length →0≤tr (toF n P) (liN n) 1000 i h∧tr (toF n (shP d P)) (liN n) 1000 i h=tr (toF n P) (liN n) 1000 i h+d:=by
 have hR:=hS.rts
 have hL:=LnP.of hS
 have hE:∀i h,i<(toF n P).np →h<((toF n P).rt i).length →0≤tr (toF n P) (liN n) (1000-d) i h:=by
  refine tr_endsB (last:=341) hR hL (fun l hl=>?_) (fun i hi=>(hb i hi).2.1) (fun i hi=>(hb i hi).1) (fun i hi=>?_) ?_
  ·obtain⟨b1,_,b3⟩:=h.busy hS (N:=1000-d) hl
   exact⟨b1,b3⟩
  ·have:=(hS.fl (i:=i) hi).2.2.2.2.1.l2
   show((pfl n (P.getD i pk0)).rt.map Int.toNat).length ≤4
   rw [List.length_map];exact this
  ·have:=sumN_bd (f:=fun i=>((toF n P).s i).toNat) (B:=7) (m:=P.length) fun i hi=>by have:=(hb i hi).2.2;show((P.getD i pk0).s).toNat ≤7;omega
   show 341+4*sumN (fun i=>((toF n P).s i).toNat) P.length+1≤1000-d
   omega
 have e1:=fun i h' (hi:i<P.length) hh=>tr_more (k:=d) hR hE i h' hi hh
 have e2:=fun i h' (hi:i<P.length) hh=>tr_sh (k:=d) hR hL (fun l hl=>(h.busy hS (N:=0) hl).2.1) (fun i hi=>(hS.fl (i:=i) hi).2.2.1) hE i h' hi hh
 rw [show 1000-d+d=1000 by omega]at e1 e2
 intro i h' hi hh
 rw [toF_sh,e2 i h' hi hh,e1 i h' hi hh]
 exact⟨hE i h' hi hh,rfl⟩
theorem so_wor {n:Nt} {k:Nat} (h:SoN n k) {P:List Pk} (hS:SkP n P) (h12:P.length≤20) (hb:∀i,i<P.length→(P.getD i pk0).t ≤341∧1≤(P.getD i pk0).s ∧(P.getD i pk0).s ≤7) {d:Nat} (hd:d≤19) (f:Int):
  ∀m,m≤P.length→worF n (shP d P) (dR (trR (toF n (shP d P)) (liN n) 1000)) f m=worF n P (dR (trR (toF n P) (liN n) 1000)) f m
 |0,_=>rfl
 |m+1,hm=>by
  have ih:=so_wor h hS h12 hb hd f m (by omega)
  have hT:=so_tr h hS h12 hb hd m
  have hpf:((shP d P).getD m pk0).f =(P.getD m pk0).f ∧((shP d P).getD m pk0).t =(P.getD m pk0).t +d:=by rw [shP_at (by omega)];exact⟨rfl,rfl⟩
  have hE:enO n (shP d P) (dR (trR (toF n (shP d P)) (liN n) 1000)) m=enO n P (dR (trR (toF n P) (liN n) 1000)) m:=by
   obtain⟨f1,f2,_,_,hG,_⟩:=hS.fl (i:=m) (by omega)
   have hr1:=hG.l1
   have hps1:hps n P m=((pfl n (P.getD m pk0)).rt.length :Nat):=by
    unfold hps;rw [Int.toNat_natCast,if_neg (by omega)]
   have hps2:hps n (shP d P) m=((pfl n (P.getD m pk0)).rt.length :Nat):=by
    unfold hps pfl;rw [Int.toNat_natCast,hpf.1,shP_len,if_neg (by omega)]
   have hrt:((toF n P).rt m).length =(pfl n (P.getD m pk0)).rt.length :=List.length_map _
   have hrt2:((toF n (shP d P)).rt m).length =(pfl n (P.getD m pk0)).rt.length :=by rw [toF_sh];exact hrt
   obtain⟨t1,t2⟩:=hT ((pfl n (P.getD m pk0)).rt.length -1) (by omega) (by omega)
   have d1:=trR_at (F:=toF n P) (Z:=liN n) (N:=1000) (i:=m) (h:=(pfl n (P.getD m pk0)).rt.length -1) (by show m<P.length;omega) (by omega)
   have d2:=trR_at (F:=toF n (shP d P)) (Z:=liN n) (N:=1000) (i:=m) (h:=(pfl n (P.getD m pk0)).rt.length -1) (by show m<(shP d P).length;rw [shP_len];omega) (by omega)
   unfold enO
   rw [if_neg (by rw [shP_len];omega),if_neg (by omega),hps1,hps2]
   unfold dnO
   rw [show(((pfl n (P.getD m pk0)).rt.length :Nat):Int)-1=(((pfl n (P.getD m pk0)).rt.length -1:Nat):Int)by omega]
   simp only [Int.toNat_natCast]
   rw [d1,d2,t2,if_neg (by omega),if_neg (by omega),hpf.2]
   simp only [Option.some.injEq];omega
  simp only [worF]
  rw [ih,hE,hpf.1]
end
end Go.Proofs.YtjhmjiimpmmnhaaGreat
