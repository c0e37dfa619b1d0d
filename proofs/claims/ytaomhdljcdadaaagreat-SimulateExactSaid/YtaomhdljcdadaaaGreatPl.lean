/- Lemmas that the proofs of this seat use (Pl Nd Kn Ks). Conditions: those that stand in each theorem. -/
import Derived.Test.YtaomhdljcdadaaaGreatTy
set_option linter.unusedVariables false
set_option linter.unusedSimpArgs false
section
section
namespace Go.Cv
abbrev INF:Int:=4611686018427387904
def vals (F:Nat→Int) (n:Nat):List Int:=(List.range n).map F
theorem vals_len (F:Nat→Int) (n:Nat):(vals F n).length =n:=by simp [vals]
def val (vs:List Int) (p:Nat) (q:Int) (t:Nat):Int:=
 if t<vs.length then vs.getD t 0 else
 if vs.getD (t-((t-vs.length)/p+1)*p) 0=INF then INF else vs.getD (t-((t-vs.length)/p+1)*p) 0+((t-vs.length)/p+1:Nat)*q
def ValidP (vs:List Int) (p i:Int):Prop:=
 1≤vs.length∧vs.length≤400∧1≤p∧p≤120∧p≤vs.length∧0≤i∧i≤1073741824∧
 (∀j<vs.length,vs.getD j 0=4611686018427387904∨0≤vs.getD j 0∧vs.getD j 0≤1073741824)∧
 (∀j,j+1<vs.length→vs.getD j 0≤vs.getD (j+1) 0)∧
 (vs.getD (vs.length-1) 0=4611686018427387904→p=1∧i=0)∧
 (vs.getD (vs.length-1) 0≠4611686018427387904→vs.getD (vs.length-p.toNat) 0+i≥vs.getD (vs.length-1) 0)
end Go.Cv
end
section
namespace Go.Np
structure Ln where
 k:Int
 c:Int
 n:Int
 w:List Int
 s:List Int
structure Fl where
 nm:ByteArray
 rt:List Int
 cl:Int
 lo:Int
 hi:Int
 v:List Int
 p:Int
 q:Int
structure Nt where
 nm:List ByteArray
 ln:List Ln
 fl:List Fl
abbrev ln0:Ln:=⟨0,0,0,[],[]⟩
abbrev fl0:Fl:=⟨ByteArray.empty,[],0,0,0,[],0,0⟩
abbrev bs0:ByteArray:=ByteArray.empty
def bt (s:ByteArray) (i:Nat):Int:=((s[i]?).getD 0).toNat
def okC (c:Int):Prop:=c=45∨(48≤c∧c≤57)∨(97≤c∧c≤122)
def WordP (s:ByteArray):Prop:=1≤s.size∧s.size≤12∧(97≤bt s 0∧bt s 0≤122)∧∀i,i<s.size→okC (bt s i)
instance {c:Int}:Decidable (okC c):=by unfold okC;infer_instance
instance {s:ByteArray}:Decidable (WordP s):=by unfold WordP;infer_instance
def inR (l:List Int) (a b:Int):Prop:=∀x∈l,a≤x∧x≤b
instance {l:List Int} {a b:Int}:Decidable (inR l a b):=by unfold inR;infer_instance
def lsErr (l:Ln):Int:=
 if l.k=3∧¬((l.w.length:Int)=l.n∧inR l.w 1 20)∨l.k=4∧¬((l.w.length:Int)=l.n∧inR l.w 1 6000)∨l.k=5∧¬(1≤l.s.length∧l.s.length≤40∧inR l.s (-1) (l.n-1))then 2
 else if(l.k≠3∧l.k≠4∧l.w.length≠0)∨(l.k≠5∧l.s.length≠0)then 6 else 0
def lnErr (l:Ln):Int:=
 if l.k<1∨5<l.k then 9
 else if l.c<1∨4000<l.c∨l.n<1∨6<l.n then 2
 else lsErr l
open Classical in
noncomputable def nmErr (met:List ByteArray) (s:ByteArray):Int:=if¬WordP s then 4 else if s∈met then 60 else 0
def firstE (f:Nat→Int):Nat→Int
 |0=>0
 |m+1=>if firstE f m≠0 then firstE f m else f m
theorem firstE_all {f:Nat→Int}:∀{m:Nat},(∀i<m,f i=0)→firstE f m=0
 |0,_=>rfl
 |m+1,h=>by
  simp only [firstE]
  rw [firstE_all (fun i hi=>h i (by omega)),if_neg (by simp)]
  exact h m (by omega)
theorem firstE_ge {f : Nat → Int} {i : Nat} : ∀ {m : Nat}, i ≤ m → firstE f i ≠ 0 → firstE f m = firstE f i
  | 0, h, _ => by have : i = 0 := by omega
                  subst this; rfl
  | m + 1, h, hn => by
    by_cases e : i = m + 1
    · subst e; rfl
    · have := firstE_ge (m := m) (by omega) hn
      simp only [firstE]
      rw [this, if_pos hn]
theorem firstE_at {f:Nat→Int} {i m:Nat} (hi:i<m) (h:∀j<i,f j=0) (hn:f i≠0):firstE f m=f i:=by
 have e:firstE f (i+1)=f i:=by simp only [firstE];rw [firstE_all h,if_neg (by simp)]
 rw [firstE_ge (i:=i+1) (by omega) (by rw [e];exact hn),e]
theorem firstE_zero {f:Nat→Int} {m:Nat} (h:firstE f m=0):∀i<m,f i=0:=by
 intro i hi
 induction i using Nat.strongRecOn with
 |ind i ih=>
  by_cases hn:f i=0
  ·exact hn
  ·have:=firstE_at hi (fun j hj=>ih j hj (by omega)) hn
   rw [h]at this;exact absurd this.symm hn
noncomputable def lineE (n:Nt) (i:Nat):Int:=if nmErr (n.nm.take i) (n.nm.getD i bs0)≠0 then nmErr (n.nm.take i) (n.nm.getD i bs0)else lnErr (n.ln.getD i ln0)
def hopE (ls:List Ln) (f:Fl) (k:Nat):Int:=
 if f.rt.getD k 0<0∨(ls.length:Int)≤f.rt.getD k 0 then 2
 else if f.rt.getD k 0∈f.rt.take k then 60
 else if f.cl<0∨(ls.getD (f.rt.getD k 0).toNat ln0).n ≤f.cl then 2 else 0
def routeE (ls:List Ln) (f:Fl):Int:=if f.rt.length=0 then 5 else if 4<f.rt.length then 3 else firstE (hopE ls f) f.rt.length
def trafE (V N:Prop) [Decidable V] [Decidable N] (f:Fl):Int:=
 if f.lo<1∨f.hi<f.lo∨1500<f.hi then 2 else if¬V then 1 else if f.v.getD 0 0≠0 then 6 else if¬N then 2 else 0
def hop (n:Nt) (f l:Int):Int:=
 if f<0∨(n.fl.length:Int)≤f then-1
 else if l∈(n.fl.getD f.toNat fl0).rt then((n.fl.getD f.toNat fl0).rt.idxOf l:Nat)else-1
end Go.Np
end
section
namespace Go.Np
open Go.Cv
def FinP (vs:List Int):Prop:=vs.getD (vs.length-1) 0≠INF
open Classical in
noncomputable def flowE (n:Nt) (i:Nat):Int:=
 if nmErr ((n.fl.take i).map (·.nm)) (n.fl.getD i fl0).nm ≠0 then nmErr ((n.fl.take i).map (·.nm)) (n.fl.getD i fl0).nm
 else if routeE n.ln (n.fl.getD i fl0)≠0 then routeE n.ln (n.fl.getD i fl0)
 else trafE (ValidP (n.fl.getD i fl0).v (n.fl.getD i fl0).p (n.fl.getD i fl0).q) (FinP (n.fl.getD i fl0).v) (n.fl.getD i fl0)
noncomputable def chkN (n:Nt):Int:=
 if n.ln.length=0∨8<n.ln.length∨10<n.fl.length then 3
 else if n.nm.length≠n.ln.length then 2
 else if firstE (lineE n) n.ln.length≠0 then firstE (lineE n) n.ln.length
 else firstE (flowE n) n.fl.length
theorem chkN_line {n:Nt} {i:Nat} (h1:¬(n.ln.length=0∨8<n.ln.length∨10<n.fl.length)) (h2:n.nm.length=n.ln.length) (hi:i<n.ln.length) (h:∀j<i,lineE n j=0) (hn:lineE n i≠0):chkN n=lineE n i:=by
 unfold chkN
 rw [if_neg h1,if_neg (by omega),firstE_at hi h hn,if_pos hn]
theorem chkN_flow {n:Nt} {i:Nat} (h1:¬(n.ln.length=0∨8<n.ln.length∨10<n.fl.length)) (h2:n.nm.length=n.ln.length) (hl:∀j<n.ln.length,lineE n j=0) (hi:i<n.fl.length) (h:∀j<i,flowE n j=0) (hn:flowE n i≠0):chkN n=flowE n i:=by
 unfold chkN
 rw [if_neg h1,if_neg (by omega),firstE_all hl,if_neg (by simp),firstE_at hi h hn]
theorem chkN_ok {n:Nt} (h1:¬(n.ln.length=0∨8<n.ln.length∨10<n.fl.length)) (h2:n.nm.length=n.ln.length) (hl:∀j<n.ln.length,lineE n j=0) (h:∀j<n.fl.length,flowE n j=0):chkN n=0:=by
 unfold chkN
 rw [if_neg h1,if_neg (by omega),firstE_all hl,if_neg (by simp),firstE_all h]
theorem chkN_zero {n:Nt} (h:chkN n=0):¬(n.ln.length=0∨8<n.ln.length∨10<n.fl.length)∧n.nm.length=n.ln.length∧(∀j<n.ln.length,lineE n j=0)∧∀j<n.fl.length,flowE n j=0:=by
 unfold chkN at h
 split at h
 ·omega
 ·split at h
  ·omega
  ·split at h
   ·contradiction
   ·rename_i h1 h2 h3
    exact⟨h1,by omega,firstE_zero (by omega),firstE_zero h⟩
def lname (i:Nat):ByteArray:=⟨#[(97+i).toUInt8]⟩
def fname (i:Nat):ByteArray:=⟨#[(102+i).toUInt8]⟩
structure FlG (m k:Nat) (f:Fl):Prop where
 cl:0≤f.cl∧f.cl<k
 lo:1≤f.lo∧f.lo≤3
 hi:f.lo≤f.hi∧f.hi≤7
 r1:1≤f.rt.length∧f.rt.length≤3
 rb:∀x∈f.rt,0≤x∧x<m
 nd:∀i j,i<j→j<f.rt.length→f.rt.getD i 0≠f.rt.getD j 0
 ct:∃b:Int,4≤b∧b≤16∧1≤f.p∧(f.p≤12∧f.p∣12)∧f.v=0::List.replicate f.p.toNat b∧0≤f.q∧f.q≤3
structure NtG (k:Nat) (n:Nt):Prop where
 k1:1≤k∧k≤2
 ll:1≤n.ln.length∧n.ln.length≤4
 nl:n.nm.length=n.ln.length
 nm:∀i,i<n.ln.length→n.nm.getD i bs0=lname i
 le:∀l∈n.ln,lnErr l=0∧l.n=k
 fl:n.fl.length≤5
 fn:∀i,i<n.fl.length→(n.fl.getD i fl0).nm =fname i
 fg:∀f∈n.fl,FlG n.ln.length k f
theorem getD_in {α:Type} {l:List α} {d:α} {i:Nat} (h:i<l.length):l.getD i d∈l:=by
 rw [List.getD_eq_getElem?_getD,List.getElem?_eq_getElem h];exact List.getElem_mem h
theorem mem_take {α:Type} {l:List α} {d x:α} {i:Nat} (h:x∈l.take i):∃j,j<i∧j<l.length∧x=l.getD j d:=by
 obtain⟨j,hj,e⟩:=List.mem_iff_getElem.1 h
 rw [List.length_take]at hj
 refine⟨j,by omega,by omega,?_⟩
 rw [←e,List.getElem_take]
 simp [List.getD_eq_getElem?_getD,show j<l.length by omega]
theorem lname_word:∀i<4,WordP (lname i):=by decide+kernel
theorem fname_word:∀i<5,WordP (fname i):=by decide+kernel
theorem lname_inj:∀i<4,∀j<4,lname i=lname j→i=j:=by decide+kernel
theorem nm_fresh {met:List ByteArray} {s:ByteArray} (h:WordP s) (hm:s∉met):nmErr met s=0:=by
 unfold nmErr;rw [if_neg (fun k=>k h),if_neg hm]
theorem FlG.valid {m k:Nat} {f:Fl} (g:FlG m k f):ValidP f.v f.p f.q∧FinP f.v:=by
 obtain⟨b,b1,b2,p1,p2,hv,q1,q2⟩:=g.ct
 have hlen:f.v.length=f.p.toNat+1:=by rw [hv];simp
 have hg:∀j,j<f.p.toNat+1→f.v.getD j 0=if j=0 then 0 else b:=by
  intro j hj
  rw [hv]
  cases j with
  |zero=>rfl
  |succ j=>simp [List.getD_eq_getElem?_getD,List.getElem?_replicate,show j<f.p.toNat by omega]
 have hlast:f.v.getD (f.v.length-1) 0=b:=by rw [hg _ (by omega),if_neg (by omega)]
 refine⟨⟨by omega,by omega,by omega,by omega,by omega,by omega,by omega,?_,?_,?_,?_⟩,?_⟩
 ·intro j hj;rw [hg j (by omega)];split<;>omega
 ·intro j hj;rw [hg j (by omega),hg (j+1) (by omega)];split<;>split<;>omega
 ·intro h;rw [hlast]at h;omega
 ·intro _;rw [hlast,hg _ (by omega)];split<;>omega
 ·unfold FinP;rw [hlast];unfold INF;omega
end Go.Np
end
section
namespace Go.Pk
structure Pk where
 f:Int
 t:Int
 s:Int
def sel (flow:Int) (x:Pk):Prop:=flow= -1∨(x.f=flow∧0≤flow)
instance (flow:Int) (x:Pk):Decidable (sel flow x):=inferInstanceAs (Decidable (_∨_))
abbrev pk0:Pk:=⟨0,0,0⟩
def bad (x:Pk):Prop:=x.f<0∨60≤x.f∨x.t<0∨2000<x.t∨x.s<1∨1500<x.s
instance (x:Pk):Decidable (bad x):=inferInstanceAs (Decidable (_∨_))
def lst (p:List Pk):Nat→Int
 |0=>0
 |i+1=>(p.getD i pk0).t
def vldN (p:List Pk):Nat→Int
 |0=>0
 |i+1=>if vldN p i≠0 then vldN p i else if bad (p.getD i pk0)then 2 else if(p.getD i pk0).t <lst p i then 7 else 0
def vld (p:List Pk):Int:=if 60<p.length then 3 else vldN p p.length
theorem vldN_ge {p : List Pk} {i : Nat} : ∀ {m : Nat}, i ≤ m → vldN p i ≠ 0 → vldN p m = vldN p i
  | 0, h, _ => by have : i = 0 := by omega
                  subst this; rfl
  | m + 1, h, hn => by
    by_cases e : i = m + 1
    · subst e; rfl
    · have := vldN_ge (p := p) (i := i) (m := m) (by omega) hn
      simp only [vldN]; rw [if_pos (by rw [this]; exact hn), this]
theorem vldN_zero {p:List Pk}:∀{m:Nat},vldN p m=0↔∀i,i<m→¬bad (p.getD i pk0)∧lst p i≤(p.getD i pk0).t
 |0=>by simp [vldN]
 |m+1=>by
  have ih:=vldN_zero (p:=p) (m:=m)
  simp only [vldN]
  constructor
  ·intro h
   split at h
   ·exact absurd h (by assumption)
   ·rename_i h0
    split at h
    ·cases h
    ·split at h
     ·cases h
     ·rename_i h1 h2
      intro i hi
      by_cases e:i=m
      ·subst e;exact⟨h1,by omega⟩
      ·exact ih.1 (by omega) i (by omega)
  ·intro h
   have h0:=ih.2 fun i hi=>h i (by omega)
   rw [if_neg (by omega),if_neg (h m (by omega)).1,if_neg (by have:=(h m (by omega)).2;omega)]
structure Vld (p:List Pk):Prop where
 l:p.length≤60
 g:∀i,i<p.length→¬bad (p.getD i pk0)
 o:∀i,i<p.length→lst p i≤(p.getD i pk0).t
theorem vld_zero {p:List Pk}:vld p=0↔Vld p:=by
 unfold vld
 constructor
 ·intro h
  split at h
  ·cases h
  ·rename_i hl
   have:=vldN_zero.1 h
   exact⟨by omega,fun i hi=>(this i hi).1,fun i hi=>(this i hi).2⟩
 ·rintro⟨h1,h2,h3⟩
  rw [if_neg (by omega),vldN_zero]
  exact fun i hi=>⟨h2 i hi,h3 i hi⟩
end Go.Pk
end
end
section
namespace Go.Proofs.YtaomhdljcdadaaaGreat
open Go.Sx Go.Np
abbrev lnv (l:Ln):List SV:=[i64 l.k,i64 l.c,i64 l.n, .psl 1 (ints l.w), .psl 1 (ints l.s)]
abbrev flv (f:Fl):List SV:=[.str f.nm, .psl 1 (ints f.rt),i64 f.cl,i64 f.lo,i64 f.hi, .psl 1 (ints f.v),i64 f.p,i64 f.q]
abbrev lns (l:List Ln):List (List SV):=l.map lnv
abbrev fls (l:List Fl):List (List SV):=l.map flv
abbrev strs (l:List ByteArray):List (List SV):=l.map fun s=>[.str s]
abbrev ntv (n:Nt):SV:= .agg [.psl 1 (strs n.nm), .psl 5 (lns n.ln), .psl 8 (fls n.fl)]
theorem lnl (l:List Ln):(lns l).length =l.length:=by simp [lns]
theorem fll (l:List Fl):(fls l).length =l.length:=by simp [fls]
theorem stl (l:List ByteArray):(strs l).length =l.length:=by simp [strs]
theorem lng {l:List Ln} {i:Nat} (h:i<l.length):(lns l)[i]? =some (lnv (l.getD i ln0)):=by simp [lns,h]
theorem flg {l:List Fl} {i:Nat} (h:i<l.length):(fls l)[i]? =some (flv (l.getD i fl0)):=by simp [fls,h]
theorem stg {l:List ByteArray} {i:Nat} (h:i<l.length):(strs l)[i]? =some [.str (l.getD i bs0)]:=by simp [strs,h]
def bb (s:ByteArray) (i:Nat):UInt8:=(s[i]?).getD 0
theorem bbg {s:ByteArray} {i:Nat} (h:i<s.size):s[i]? =some (bb s i):=by
 unfold bb;rw [getElem?_pos s i h];rfl
theorem ba_ne {s:ByteArray} (h:¬s=⟨#[]⟩):1≤s.size:=by
 rcases Nat.eq_zero_or_pos s.size with h0|h0
 ·refine absurd ?_ h
  cases s with|mk d=>simp only [ByteArray.size]at h0;rw [Array.eq_empty_of_size_eq_zero h0]
 ·exact h0
structure NL (n:Nt):Prop where
 nm:n.nm.length≤9223372036854775807
 ln:n.ln.length≤9223372036854775807
 fl:n.fl.length≤9223372036854775807
 ns:∀s∈n.nm,s.size≤9223372036854775807
 lw:∀l∈n.ln,l.w.length≤9223372036854775807∧l.s.length≤9223372036854775807
 fs:∀f∈n.fl,f.nm.size≤9223372036854775807∧f.rt.length≤9223372036854775807∧f.v.length≤9223372036854775807
theorem getD_in {α:Type} {l:List α} {d:α} {i:Nat} (h:i<l.length):l.getD i d∈l:=by
 rw [List.getD_eq_getElem?_getD,List.getElem?_eq_getElem h];exact List.getElem_mem h
end Go.Proofs.YtaomhdljcdadaaaGreat
end
section
namespace Go.Proofs.YtaomhdljcdadaaaGreat
open Go.Sx
set_option maxRecDepth 4000
set_option maxHeartbeats 2000000
theorem ints_take (l:List Int) (k:Nat):(ints l).take k=ints (l.take k):=by simp [ints,List.map_take]
abbrev src (L:List Int) (k:Nat):Chunk:= .box [.psl 1 (ints L),i64 k]
def md (x n:Int):Int:=if x.tmod n<0 then x.tmod n+n else x.tmod n
theorem md_bd {x n:Int} (hn:1≤n):0≤md x n∧md x n<n:=by
 have h1:=Int.tmod_lt_of_pos x (show 0<n by omega)
 have h2: -n<x.tmod n:=by
  have h3:=Int.tmod_lt_of_pos (-x) (show 0<n by omega)
  rw [Int.neg_tmod]at h3
  omega
 unfold md;split<;>omega
theorem aP_Kn {A B K:Prop} (k:K) (a:A:=by(simp only [zA,zT,zD,zC,zN,ints_len,zR,Go.Cv.vals_len];omega)) (b:B:=by(simp only [zA,zT,zD,zC,zN,ints_len,zR,Go.Cv.vals_len];omega)):(A∧B)∧K:=⟨⟨a,b⟩,k⟩
theorem z1_Kn {G H:Prop} (k:H) (h:H→G:=by first|exact fun r=>aS r|exact fun r=>aG r|exact fun r=>aD r|exact fun r=>aH r|exact fun r=>aP_Kn r|exact fun r=>aI r|exact fun r=>aJ r):G:=h k
theorem Mod_ok (x n:Int) (hn:1≤n) (hn2:n≤9223372036854775807):Ctr Tryz.prog 73 [i64 x,i64 n] [] (fun r o=>o=[]∧r=i64 (md x n)):=by
 refine fn_intro (E:=env 0) tys_ok rfl rfl rfl Tryz.func73 (by kernel_rfl) rfl (by kernel_rfl) ?_
 have hb:=md_bd (x:=x) hn
 have h1:=Int.tmod_lt_of_pos x (show 0<n by omega)
 unfold md at hb
 (repeat' (conv=>whnf);first|(refine aC (fun _=>?_) (fun _=>?_)<;>try (exfalso;omega))|refine z1_Kn ?_|fail);all_goals try (conv=>whnf)
 refine⟨by omega,?_⟩
 (repeat' (conv=>whnf);first|(refine aC (fun _=>?_) (fun _=>?_)<;>try (exfalso;omega))|refine z1_Kn ?_|fail);all_goals try (conv=>whnf)
 ·exact⟨rfl,by simp only [oneS];unfold md;rw [if_pos (by assumption)]⟩
 ·exact⟨rfl,by simp only [oneS];unfold md;rw [if_neg (by assumption)]⟩
theorem z2_Kn {G H:Prop} (k:H) (h:H→G:=by first|exact fun r=>aS r|exact fun r=>aG r|exact fun r=>aD r|exact fun r=>aH r|exact fun r=>aP_Kn r|exact fun r=>aI r|exact fun r=>aJ r|exact fun r=>aW (.qs [0,1,2,3,4,5,6,7,8,9] .nil) r|exact fun r=>aW (.qs [0,1,2,3,4,5,6,7,8,9,10,11] .nil) r):G:=h k
theorem Raw_ok (L:List Int) (k:Nat) (hL:L.length≤2000) (hk:k≤2000):
  Ctr Tryz.prog 74 [.ptr 0 0] [src L k] (fun r o=>∃x:Int×Nat,x.2≤2000∧o=[src L x.2]∧r=i64 x.1):=by
 refine fn_intro (E:=env 1) tys_ok rfl rfl rfl Tryz.func74 (by kernel_rfl) rfl (by kernel_rfl) ?_
 (repeat' (conv=>whnf);first|refine aC (fun _=>?_) (fun _=>?_)|refine z2_Kn ?_|fail);all_goals try (conv=>whnf)
 ·exact⟨(0,k),hk,rfl,rfl⟩
 ·simp only [ints_len]at*
  exact⟨(_,k+1),by simp only;omega,rfl,rfl⟩
theorem N_ok (L:List Int) (k:Nat) (hL:L.length≤2000) (hk:k≤2000) (n:Int) (hn:1≤n) (hn2:n≤9223372036854775807):
  Ctr Tryz.prog 30 [.ptr 0 0,i64 n] [src L k] (fun r o=>∃x:Int×Nat,(0≤x.1∧x.1<n∧x.2≤2000)∧o=[src L x.2]∧r=i64 x.1):=by
 refine fn_intro (E:=env 1) tys_ok rfl rfl rfl Tryz.func30 (by kernel_rfl) rfl (by kernel_rfl) ?_
 (repeat' (conv=>whnf);first|refine aC (fun _=>?_) (fun _=>?_)|refine z1_Kn ?_|fail);all_goals try (conv=>whnf)
 refine aM [0] (Raw_ok L k hL hk) rfl rfl ?_
 rintro _ _ ⟨⟨v,k'⟩,hk',rfl,rfl⟩
 (repeat' (conv=>whnf);first|refine aC (fun _=>?_) (fun _=>?_)|refine z1_Kn ?_|fail);all_goals try (conv=>whnf)
 refine aK [] (Mod_ok v n hn hn2) ?_
 (repeat' (conv=>whnf);first|refine aC (fun _=>?_) (fun _=>?_)|refine z1_Kn ?_|fail);all_goals try (conv=>whnf)
 exact⟨(md v n,k'),⟨(md_bd hn).1,(md_bd hn).2,hk'⟩,rfl,rfl⟩
theorem getD_mem {l:List Int} {i:Nat} (h:i<l.length):l.getD i 0∈l:=by
 rw [List.getD_eq_getElem?_getD,List.getElem?_eq_getElem h];exact List.getElem_mem h
theorem Pick_ok (L:List Int) (k:Nat) (hL:L.length≤2000) (hk:k≤2000) (l:List Int) (hl:1≤l.length) (hl2:l.length≤1000000):
  Ctr Tryz.prog 59 [.ptr 0 0, .psl 1 (ints l)] [src L k] (fun r o=>∃x:Int×Nat,(x.1∈l∧x.2≤2000)∧o=[src L x.2]∧r=i64 x.1):=by
 refine fn_intro (E:=env 1) tys_ok rfl rfl rfl Tryz.func59 (by kernel_rfl) rfl (by kernel_rfl) ?_
 (repeat' (conv=>whnf);first|refine aC (fun _=>?_) (fun _=>?_)|refine z1_Kn ?_|fail);all_goals try (conv=>whnf)
 refine aM [0] (N_ok L k hL hk _ (by rw [ints_len];omega) (by rw [ints_len];omega)) rfl rfl ?_
 rintro _ _ ⟨⟨v,k'⟩,⟨h1,h2,hk'⟩,rfl,rfl⟩
 (repeat' (conv=>whnf);first|refine aC (fun _=>?_) (fun _=>?_)|refine z1_Kn ?_|fail);all_goals try (conv=>whnf)
 refine⟨(l.getD v.toNat 0,k'),⟨getD_mem (by simp only [ints_len]at h2;omega),hk'⟩,rfl,rfl⟩
theorem New_ok (l:List Int) (hl:l.length≤9223372036854775807):
  Ctr Tryz.prog 13 [.psl 1 (ints l)] [] (fun r o=>o=[src (l.take 2000) 0]∧r= .ptr 0 0):=by
 refine fn_intro (E:=env 0) tys_ok rfl rfl rfl Tryz.func13 (by kernel_rfl) rfl (by kernel_rfl) ?_
 (repeat' (conv=>whnf);first|refine aC (fun _=>?_) (fun _=>?_)|refine z1_Kn ?_|fail);all_goals try (conv=>whnf)
 simp only [ints_len]
 refine⟨min l.length 2000,by omega,⟨by omega,by omega⟩,?_⟩
 (repeat' (conv=>whnf);first|refine aC (fun _=>?_) (fun _=>?_)|refine z1_Kn ?_|fail);all_goals try (conv=>whnf)
 refine⟨?_,rfl⟩
 have e:l.take (min l.length 2000)=l.take 2000:=by
  by_cases h:l.length≤2000
  ·rw [Nat.min_eq_left h,List.take_of_length_le (Nat.le_refl _),List.take_of_length_le h]
  ·rw [Nat.min_eq_right (by omega)]
 rw [List.drop_zero,ints_take,e]
 rfl
end Go.Proofs.YtaomhdljcdadaaaGreat
end
section
namespace Go.Proofs.YtaomhdljcdadaaaGreat
open Go.Sx Go.Np Go.Cv
set_option maxRecDepth 4000
set_option maxHeartbeats 2000000
theorem ints_app (a b:List Int):ints (a++b)=ints a++ints b:=by simp [ints]
theorem idx_no {r:List Int} {l:Int} (h:∀j<r.length,¬r.getD j 0=l):l∉r:=by
 intro hm
 obtain⟨j,hj,e⟩:=List.mem_iff_getElem.1 hm
 exact h j hj (by rw [List.getD_eq_getElem?_getD,List.getElem?_eq_getElem hj,Option.getD_some];exact e)
theorem aP_Ks {A B K:Prop} (k:K) (a:A:=by(simp only [zA,zT,zD,zC,zN,ints_len,zR,Go.Cv.vals_len];omega)) (b:B:=by(simp only [zA,zT,zD,zC,zN,ints_len,zR,Go.Cv.vals_len];omega)):(A∧B)∧K:=⟨⟨a,b⟩,k⟩
theorem z1_Ks {G H:Prop} (k:H) (h:H→G:=by first|exact fun r=>aS r|exact fun r=>aG r|exact fun r=>aD r|exact fun r=>aH r|exact fun r=>aP_Ks r|exact fun r=>aI r|exact fun r=>aJ r|exact fun r=>aW (.qs [0,1,2,3,4,5,6,7,8] .nil) r):G:=h k
theorem kInts_ok (a b:List Int) (ha:a.length≤9223372036854775807):Ctr Tryz.prog 52 [.psl 1 (ints a), .psl 1 (ints b)] [] (fun r o=>o=[]∧r= .bp (a=b)):=by
 refine Ctr.imp ?_
 refine fn_intro (E:=env 0) tys_ok rfl rfl rfl Tryz.func52 (by kernel_rfl) rfl (by kernel_rfl) ?_
 have hla:=ints_len a
 have hlb:=ints_len b
 (repeat' (conv=>whnf);first|(refine aC (fun _=>?_) (fun _=>?_)<;>try (exfalso;omega))|refine z1_Ks ?_|fail);all_goals try (conv=>whnf)
 ·exact⟨rfl,Imp.bl ⟨fun h=>(by cases h),fun h=>by subst h;omega⟩⟩
 have hab:a.length=b.length:=by omega
 refine LoopOb.mk (Y:=Nat) (st:=fun i=>⟨[(13,i64 i),(12,i64 (ints a).length),(1, .psl 1 (ints b)),(0, .psl 1 (ints a))],[]⟩)
  (inv:=fun i=>i≤a.length∧∀j<i,a.getD j 0=b.getD j 0) (fun i=>a.length-i) 0 [] ⟨by omega,by omega⟩ (by(exact aL)) ?_
 rintro i ⟨hi,hv⟩
 (repeat' (conv=>whnf);first|refine z1_Ks ?_|fail);all_goals try (conv=>whnf)
 refine CondOb.mk (fun hlt=>?_) (fun hlt=>?_)
 ·have hst:a.getD i 0=b.getD i 0→∀j<i+1,a.getD j 0=b.getD j 0:=fun h j hj=>by
   by_cases e:j=i
   ·rw [e];exact h
   ·exact hv j (by omega)
  (repeat' (conv=>whnf);first|(refine aC (fun _=>?_) (fun _=>?_)<;>try (exfalso;omega))|refine z1_Ks ?_|fail);all_goals try (conv=>whnf)
  ·exact⟨rfl,Imp.bl ⟨fun h=>(by cases h),fun h=>by subst h;exact absurd rfl (by assumption)⟩⟩
  ·exact⟨i+1,[],⟨by omega,hst (by omega)⟩,by omega,by(exact aL)⟩
 ·(repeat' (conv=>whnf);first|refine aC (fun _=>?_) (fun _=>?_)|refine z1_Ks ?_|fail);all_goals try (conv=>whnf)
  refine⟨rfl,Imp.bl ⟨fun _=>?_,fun _=>rfl⟩⟩
  apply List.ext_getElem hab
  intro j h1 h2
  have:=hv j (by omega)
  rw [List.getD_eq_getElem?_getD,List.getD_eq_getElem?_getD,List.getElem?_eq_getElem h1,List.getElem?_eq_getElem h2,Option.getD_some,Option.getD_some]at this
  exact this
theorem z2_Ks {G H:Prop} (k:H) (h:H→G:=by first|exact fun r=>aS r|exact fun r=>aG r|exact fun r=>aD r|exact fun r=>aH r|exact fun r=>aP_Ks r|exact fun r=>aI r|exact fun r=>aJ r):G:=h k
def stv (b:Int) (p:Nat):List Int:=0::List.replicate p b
theorem stv_len (b:Int) (p:Nat):(stv b p).length =p+1:=by simp [stv]
theorem stv_succ (b:Int) (p:Nat):stv b (p+1)=stv b p++[b]:=by simp [stv,List.replicate_succ']
theorem z3_Ks {G H:Prop} (k:H) (h:H→G:=by first|exact fun r=>aS r|exact fun r=>aG r|exact fun r=>aD r|exact fun r=>aP_Ks r|exact fun r=>aI r|exact fun r=>aJ r):G:=h k
theorem Stair_ok (b:Int) (p:Nat) (q:Int) (hp:p≤1000):Ctr Tryz.prog 96 [i64 b,i64 p,i64 q] [] (fun r o=>o=[]∧r=crv (stv b p) p q):=by
 refine Ctr.imp ?_
 refine fn_intro (E:=env 0) tys_ok rfl rfl rfl Tryz.func96 (by kernel_rfl) rfl (by kernel_rfl) ?_
 (repeat' (conv=>whnf);first|refine aC (fun _=>?_) (fun _=>?_)|refine z2_Ks ?_|fail);all_goals try (conv=>whnf)
 refine LoopOb.mk (Y:=Nat) (st:=fun i=>⟨[(8,i64 i),(7, .ptr 2 0),(6, .ptr 0 0),(0,i64 b),(1,i64 p)],[.box [.nil,i64 0,i64 0], .vec 1 (ints (stv b i)), .box [.vec 1,i64 p,i64 q]]⟩)
  (inv:=fun i=>i≤p) (fun i=>p-i) 0 [0,1,2] (by omega) (by(exact aL)) ?_
 intro i hi
 have hl:=ints_len (stv b i)
 have hs:=stv_len b i
 (repeat' (conv=>whnf);first|refine z2_Ks ?_|fail);all_goals try (conv=>whnf)
 refine CondOb.mk (fun hlt=>?_) (fun hlt=>?_)
 ·(repeat' (conv=>whnf);first|refine aC (fun _=>?_) (fun _=>?_)|refine z2_Ks ?_|fail);all_goals try (conv=>whnf)
  exact⟨i+1,[0,4,2],by omega,by omega,by rw [stv_succ,ints_app];(exact aL)⟩
 ·have e:i=p:=by omega
  subst e
  (repeat' (conv=>whnf);first|refine aC (fun _=>?_) (fun _=>?_)|refine z3_Ks ?_|fail);all_goals try (conv=>whnf)
  refine .mk [.fz 1] ?_
  (repeat' (conv=>whnf);first|refine aC (fun _=>?_) (fun _=>?_)|refine z2_Ks ?_|fail);all_goals try (conv=>whnf)
  exact⟨rfl,Imp.refl _⟩
theorem Range_ok (L:List Int) (k:Nat) (hL:L.length≤2000) (hk:k≤2000) (lo hi:Int) (h1: -1000000≤lo) (h2:lo≤hi) (h3:hi≤1000000):
  Ctr Tryz.prog 56 [.ptr 0 0,i64 lo,i64 hi] [src L k] (fun r o=>∃x:Int×Nat,(lo≤x.1∧x.1≤hi∧x.2≤2000)∧o=[src L x.2]∧r=i64 x.1):=by
 refine fn_intro (E:=env 1) tys_ok rfl rfl rfl Tryz.func56 (by kernel_rfl) rfl (by kernel_rfl) ?_
 (repeat' (conv=>whnf);first|refine aC (fun _=>?_) (fun _=>?_)|refine z2_Ks ?_|fail);all_goals try (conv=>whnf)
 refine aM [0] (N_ok L k hL hk (hi-lo+1) (by omega) (by omega)) rfl rfl ?_
 rintro _ _ ⟨⟨v,k'⟩,⟨h4,h5,hk'⟩,rfl,rfl⟩
 dsimp only at h4 h5 hk'⊢
 (repeat' (conv=>whnf);first|refine aC (fun _=>?_) (fun _=>?_)|refine z2_Ks ?_|fail);all_goals try (conv=>whnf)
 exact⟨(lo+v,k'),⟨by simp only;omega,by simp only;omega,hk'⟩,rfl,rfl⟩
def nms (t:Nat):List ByteArray:=(List.range t).map lname
theorem nms_len {t:Nat}:(nms t).length =t:=by simp [nms]
theorem nms_succ {t:Nat}:nms (t+1)=nms t++[lname t]:=by simp [nms,List.range_succ]
theorem nms_get {t i:Nat} (h:i<t):(nms t).getD i bs0=lname i:=by simp [nms,List.getD_eq_getElem?_getD,h]
theorem lns_app (a b:List Ln):lns (a++b)=lns a++lns b:=by simp [lns]
theorem fls_app (a b:List Fl):fls (a++b)=fls a++fls b:=by simp [fls]
theorem strs_app (a b:List ByteArray):strs (a++b)=strs a++strs b:=by simp [strs]
theorem all_app {α:Type} {P:α→Prop} {l:List α} {x:α} (h:∀a∈l,P a) (hx:P x):∀a∈l++[x],P a:=by
 intro a ha
 rcases List.mem_append.1 ha with ha|ha
 ·exact h a ha
 ·rw [List.mem_singleton.1 ha];exact hx
end Go.Proofs.YtaomhdljcdadaaaGreat
end
