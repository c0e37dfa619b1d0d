/- Lemmas of this seat. Conditions: as stated. -/
import Derived.Test.YtaomhdljcdadaaaGreatSo4
import Derived.Test.YtaomhdljcdadaaaGreatT1
import Derived.Test.YtaomhdljcdadaaaGreatS2d
set_option linter.unusedVariables false
set_option linter.unusedSimpArgs false
set_option maxHeartbeats 2000000
set_option maxRecDepth 8000
namespace Go.Proofs.YtaomhdljcdadaaaGreat
section
open Go.Sx Go.Pk Go.Mc
theorem RSend_ok (N T:Nat) (hN2:N≤6) (hT:T≤2000) (B:Int) (hB:B≤10000000) (p:List Pk) (hp:PL p) (hcl:∀i,i<p.length→0≤cl p i∧cl p i<N) (t i g:Nat) (G dn:Nat→Int) (ms:List (List Int)) (hS:Sn N (fun _=>T+2) B ms)
  (hi:i<p.length) (hg:G i=g) (hgs:g<sz p i) (left:Nat) (hl:1≤left) (hl2:left≤4000):
  Ctr Tryz.prog 166 [stV t i, .psl 3 (pks p),i64 left] (stO p.length G dn ms) (fun r o=>∃m2,
   (sz p i≤g+left∧Sn N (fun _=>T+2) (B+(sz p i-g:Nat)) m2∧o=[.vec 1 (ivs p.length G), .vec 1 (ivs p.length dn), .mat 1 (mtz m2), .box [i64 t, .vec 5,i64 (-1), .vec 6, .vec 2], .box [i64 t, .vec 5,i64 (-1), .vec 6, .vec 2], .vec 1 (ivs p.length (upd G i (sz p i))), .vec 1 (ivs p.length (upd dn i t))]∧r= .tup [.agg [i64 t, .vec 5,i64 (-1), .vec 6, .vec 2],i64 (sz p i-g:Nat)])∨
   (g+left<sz p i∧Sn N (fun _=>T+2) (B+left) m2∧o=[.vec 1 (ivs p.length G), .vec 1 (ivs p.length dn), .mat 1 (mtz m2), .box [i64 t, .vec 5,i64 i, .vec 1, .vec 2], .box [i64 t, .vec 5,i64 i, .vec 1, .vec 2], .vec 1 (ivs p.length (upd G i (g+left:Nat)))]∧r= .tup [.agg [i64 t, .vec 5,i64 i, .vec 1, .vec 2],i64 left])):=by
 refine fI 3 Tryz.func166 ?_
 have hpl:=pks_len p
 have h60:=hp.l
 have hgp:=pks_get hi
 obtain⟨z1,z2⟩:=hp.s i hi
 have hzI:((sz p i:Nat):Int)=(p.getD i pk0).s :=by unfold sz;omega
 have gg:=ivs_get (f:=G) hi
 have gd:=ivs_get (f:=dn) hi
 have hil:=fun(m:Nat) (f:Nat→Int)=>ivs_len m f
 have hi1:=hil p.length G
 have hi2:=hil p.length dn
 obtain⟨q,hqe⟩:∃q:Nat,cl p i=q:=⟨(cl p i).toNat,by have:=(hcl i hi).1;omega⟩
 have hqN:q<N:=by have:=(hcl i hi).2;omega
 have hgr:=mtz_get (ms:=ms) (c:=q) (by have:=hS.l;omega)
 have hrl:=hS.r q hqN
 have hrv:=hS.v q hqN
 have hml:=(mtz_len ms).trans hS.l
 generalize ms.getD q []=row at*
 have hil2:=ints_len row
 have hgv:=ints_get (l:=row) (j:=T+1) (by omega)
 generalize hvv:row.getD (T+1) 0=v at*
 have hv1:=hrv (T+1)
 rw [hvv]at hv1
 rw [show cl p i=(p.getD i pk0).f from rfl]at hqe
 generalize p.getD i pk0=x at*
 rw [hg]at gg
 have hst:=fun B' (hB':B≤B') r h1 h3=>hS.set (B':=B') (len':=fun _=>T+2) hB' hqN (r:=r) h1 (fun j hj=>rfl) h3
 have hsv:∀n:Int,0≤n→∀j,0≤(row.set (T+1) (v+n)).getD j 0∧(row.set (T+1) (v+n)).getD j 0≤B+n:=fun n h1 j=>by
  rw [getD_setI (by omega)]
  split
  ·omega
  ·have:=hrv j;omega
 have hsl:∀n:Int,(row.set (T+1) (v+n)).length =T+2:=fun n=>by rw [List.length_set];omega
 have hse:∀n:Int,(mtz ms).set q ((ints row).set (T+1) [i64 (v+n)])=mtz (ms.set q (row.set (T+1) (v+n))):=fun n=>by rw [←mtz_set];simp [ints,List.map_set]
 have hu:=fun n=>hil p.length (upd G i n)
 have gu:=fun n:Int=>ivs_get (f:=upd G i n) hi
 simp only [upd_same]at gu
 by_cases hfin:sz p i≤g+left
 ·have hmin:min (left:Int) (x.s-g)=x.s-g:=by omega
  (repeat' (conv=>whnf);first|refine⟨i,_,rfl,hgp,?_⟩|refine aC ?_ ?_<;>intro<;>try omega|refine aS ?_|refine aG ?_|refine aD ?_|refine aH ?_|refine aP_T1 ?_|refine aI ?_|refine aJ ?_|refine⟨_,_,rfl,rfl,Nat.le_refl _,⟨by(simp only;omega),by omega⟩,?_⟩|refine aW (.qs [0,1,2,3,4,5,6,7,8,9,10,11,12,13] .nil) ?_|refine aW (.qs [0,1,2,3,4,5,6,7,8,9,10] .nil) ?_|refine aW (.qs [0,1,2,3,4,5,6,7,8,9] .nil) ?_|refine⟨i,rfl,by omega,?_⟩|refine⟨_,gg,?_⟩|refine And.intro ⟨by simp only;omega,by omega⟩ ?_|refine⟨q,hqe,by omega,?_⟩|refine And.intro (show q<(mtz ms).length by omega) ?_|refine⟨T+1,_,by omega,hgr,by omega,?_⟩|refine⟨_,_,hgr,hgv,?_⟩|refine⟨_,hgr,?_⟩|fail);all_goals try (conv=>whnf)
  rw [hmin,show(g:Int)+(x.s-g)=(sz p i:Nat)by omega,ivs_set,hse]
  have hu1:=hu (sz p i:Nat)
  have gu1:=gu (sz p i:Nat)
  (repeat' (conv=>whnf);first|refine⟨i,_,rfl,hgp,?_⟩|refine aC ?_ ?_<;>intro<;>try omega|refine aS ?_|refine aG ?_|refine aD ?_|refine aH ?_|refine aP_T1 ?_|refine aI ?_|refine aJ ?_|refine⟨_,_,rfl,rfl,Nat.le_refl _,⟨by(simp only;omega),by omega⟩,?_⟩|refine aW (.qs [0,1,2,3,4,5,6,7,8,9,10,11,12,13] .nil) ?_|refine aW (.qs [0,1,2,3,4,5,6,7,8,9,10] .nil) ?_|refine aW (.qs [0,1,2,3,4,5,6,7,8,9] .nil) ?_|refine⟨i,rfl,by omega,?_⟩|refine⟨_,gu1,?_⟩|refine And.intro ⟨by simp only;omega,by omega⟩ ?_|refine⟨i,rfl,by omega,?_⟩|refine⟨_,gd,?_⟩|fail);all_goals try (conv=>whnf)
  exact⟨ms.set q (row.set (T+1) (v+(x.s-g))), .inl ⟨hfin,hst (B+(sz p i-g:Nat)) (by omega) _ (hsl _) (fun j=>by have:=hsv (x.s-g) (by omega) j;omega),by dsimp only;rw [ivs_set],by rw [show((sz p i-g:Nat):Int)=x.s-g by omega];rfl⟩⟩
 ·have hmin:min (left:Int) (x.s-g)=left:=by omega
  (repeat' (conv=>whnf);first|refine⟨i,_,rfl,hgp,?_⟩|refine aC ?_ ?_<;>intro<;>try omega|refine aS ?_|refine aG ?_|refine aD ?_|refine aH ?_|refine aP_T1 ?_|refine aI ?_|refine aJ ?_|refine⟨_,_,rfl,rfl,Nat.le_refl _,⟨by(simp only;omega),by omega⟩,?_⟩|refine aW (.qs [0,1,2,3,4,5,6,7,8,9,10,11,12,13] .nil) ?_|refine aW (.qs [0,1,2,3,4,5,6,7,8,9,10] .nil) ?_|refine aW (.qs [0,1,2,3,4,5,6,7,8,9] .nil) ?_|refine⟨i,rfl,by omega,?_⟩|refine⟨_,gg,?_⟩|refine And.intro ⟨by simp only;omega,by omega⟩ ?_|refine⟨q,hqe,by omega,?_⟩|refine And.intro (show q<(mtz ms).length by omega) ?_|refine⟨T+1,_,by omega,hgr,by omega,?_⟩|refine⟨_,_,hgr,hgv,?_⟩|refine⟨_,hgr,?_⟩|fail);all_goals try (conv=>whnf)
  rw [hmin,show(g:Int)+left=(g+left:Nat)by omega,ivs_set,hse]
  have hu1:=hu (g+left:Nat)
  have gu1:=gu (g+left:Nat)
  (repeat' (conv=>whnf);first|refine⟨i,_,rfl,hgp,?_⟩|refine aC ?_ ?_<;>intro<;>try omega|refine aS ?_|refine aG ?_|refine aD ?_|refine aH ?_|refine aP_T1 ?_|refine aI ?_|refine aJ ?_|refine⟨_,_,rfl,rfl,Nat.le_refl _,⟨by(simp only;omega),by omega⟩,?_⟩|refine aW (.qs [0,1,2,3,4,5,6,7,8,9,10,11,12,13] .nil) ?_|refine aW (.qs [0,1,2,3,4,5,6,7,8,9,10] .nil) ?_|refine aW (.qs [0,1,2,3,4,5,6,7,8,9] .nil) ?_|refine⟨i,rfl,by omega,?_⟩|refine⟨_,gu1,?_⟩|fail);all_goals try (conv=>whnf)
  exact⟨_, .inr ⟨by omega,hst (B+left) (by omega) _ (hsl _) (fun j=>hsv left (by omega) j),rfl,rfl⟩⟩
end
section
open Go.Sx Go.Pk Go.Cv
theorem z1_Vr {G H:Prop} (k:H) (h:H→G:=by first|exact fun r=>aS r|exact fun r=>aG r|exact fun r=>aD r|exact fun r=>aH r|exact fun r=>aP_C1 r|exact fun r=>aI r|exact fun r=>aJ r|exact fun r=>aW (.qs [0,1,2,3,4,5,6,7,8,9,10,11,12] .nil) r):G:=h k
theorem rVal13_ok (p : List Pk) (hp : p.length ≤ 1000000) : Ctr Tryz.prog 192 [.psl 3 (pks p)] [] (fun r o => o = [] ∧ r = i64 (vld p)) := by
  refine Ctr.imp ?_
  refine fI 0 Tryz.func192 ?_
  have hpl := pks_len p
  (repeat' (conv => whnf); first | refine aC ?_ ?_ <;> intro <;> try omega | refine z1_Vr ?_ | fail); all_goals try (conv => whnf)
  · exact ⟨rfl, by unfold vld; rw [if_pos (by omega)]; exact Imp.refl _⟩
  refine LoopOb.mk (Y := Nat) (st := fun i => ⟨[(3, i64 i), (0, .psl 3 (pks p))], []⟩)
    (inv := fun i => i ≤ p.length ∧ vldN p i = 0) (fun i => p.length - i) 0 [] ⟨by omega, rfl⟩ (by (exact aL)) ?_
  rintro i ⟨hi, hv⟩
  (repeat' (conv => whnf); first | refine z1_Vr ?_ | fail); all_goals try (conv => whnf)
  refine CondOb.mk (fun hlt => ?_) (fun hlt => ?_)
  · have hil : i < p.length := by omega
    have hg := pks_get hil
    have hg1 : 0 < i → (pks p)[i - 1]? = some (pkw (p.getD (i - 1) pk0)) := fun h => pks_get (by omega)
    have hs0 : vldN p (i + 1) = if bad (p.getD i pk0) then 2 else if (p.getD i pk0).t < Go.Pk.lst p i then 7 else 0 := by simp only [vldN]; rw [if_neg (by omega)]
    have hs1 : bad (p.getD i pk0) → vldN p (i + 1) = 2 := fun h => by rw [hs0, if_pos h]
    have hs2 : ¬bad (p.getD i pk0) → (p.getD i pk0).t < Go.Pk.lst p i → vldN p (i + 1) = 7 := fun h h' => by rw [hs0, if_neg h, if_pos h']
    have hs3 : ¬bad (p.getD i pk0) → ¬(p.getD i pk0).t < Go.Pk.lst p i → vldN p (i + 1) = 0 := fun h h' => by rw [hs0, if_neg h, if_neg h']
    clear hs0
    have hl : 0 < i → Go.Pk.lst p i = (p.getD (i - 1) pk0).t := fun h => by
      obtain ⟨j, rfl⟩ : ∃ j, i = j + 1 := ⟨i - 1, by omega⟩
      rfl
    have hl0 : i = 0 → Go.Pk.lst p i = 0 := fun h => by subst h; rfl
    have hE : vldN p (i + 1) ≠ 0 → vld p = vldN p (i + 1) := fun h => by
      unfold vld; rw [if_neg (by omega)]; exact vldN_ge (by omega) h
    unfold bad at hs1 hs2 hs3
    generalize p.getD (i - 1) pk0 = z at *
    generalize p.getD i pk0 = x at *
    generalize Go.Pk.lst p i = y at *
    (repeat' (conv => whnf); first | refine ⟨i - 1, _, by omega, hg1 (by omega), ?_⟩ | refine ⟨i, _, rfl, hg, ?_⟩ | refine aC ?_ ?_ <;> intro <;> try omega | refine z1_Vr ?_ | fail); all_goals try (conv => whnf)
    all_goals first
      | (have e := hs3 (by omega) (by omega)
         exact ⟨i + 1, [], ⟨by omega, e⟩, by omega, by (exact aL)⟩)
      | (have e := hs1 (by omega)
         have e2 := (hE (by omega)).trans e
         rw [e2]
         exact ⟨rfl, Imp.refl _⟩)
      | (have e := hs2 (by omega) (by omega)
         have e2 := (hE (by omega)).trans e
         rw [e2]
         exact ⟨rfl, Imp.refl _⟩)
      | trace_state
  · have e : i = p.length := by omega
    subst e
    (repeat' (conv => whnf); first | refine aC ?_ ?_ <;> intro <;> try omega | refine z1_Vr ?_ | fail); all_goals try (conv => whnf)
    exact ⟨rfl, by unfold vld; rw [if_neg (by omega), hv]; exact Imp.refl _⟩
end
section
open Go.Sx Go.Pk Go.Mc
def gvn {σ:Type} (p:List Pk) (S:St σ) (i:Nat):Int:=if S.bg i=true then(if cI S.cur=i then(sz p i:Int)-cR S.cur else(sz p i:Nat))else 0
def RqS {σ:Type} (p:List Pk) (S:St σ):Prop:=∀c,S.cur=some c→1≤c.2∧c.2≤sz p c.1
section
variable {σ:Type} {p:List Pk} {t:Nat} {S:St σ}
theorem bgO_gvn (hp:PL p) (hI:InvT p t S) (hq:RqS p S) {i:Nat} (hi:i<p.length):bgO (gvn p S) (cI S.cur) i=S.bg i:=by
 have hz:1≤sz p i:=by have:=(hp.s i hi).1;unfold sz;omega
 unfold bgO
 rw [Bool.eq_iff_iff,decide_eq_true_iff]
 unfold gvn
 cases hb:S.bg i with
 |true=>
  rw [if_pos rfl]
  by_cases e:cI S.cur=i
  ·exact⟨fun _=>rfl,fun _=> .inr e⟩
  ·rw [if_neg e];exact⟨fun _=>rfl,fun _=> .inl (by omega)⟩
 |false=>
  rw [if_neg (by simp)]
  refine⟨fun h=>?_,fun h=>by cases h⟩
  rcases h with h|h
  ·exact absurd rfl h
  ·cases hc:S.cur with
   |none=>rw [hc]at h;unfold cI at h;simp only at h;omega
   |some c=>
    rw [hc]at h
    have e:c.1=i:=by unfold cI at h;simp only at h;omega
    have:=(hI.c c.1 c.2 hc).1
    rw [e,hb]at this;cases this
theorem wt_gvn (hp:PL p) (hI:InvT p t S) (hq:RqS p S) (i:Nat):wt p t (bgO (gvn p S) (cI S.cur)) i=wt p t S.bg i:=by
 by_cases hi:i<p.length
 ·unfold wt;rw [bgO_gvn hp hI hq hi]
 ·unfold wt;simp [hi]
theorem gvn_new {s':σ} {i:Nat} (hc:S.cur=none) (hb:S.bg i=false):gvn p (⟨s',some (i,sz p i),upd S.bg i true,S.dn⟩:St σ)=gvn p S:=funext fun j=>by
 unfold gvn
 by_cases e:j=i
 ·subst e
  simp only [upd_same,cI,cR,hb,if_true,Bool.false_eq_true,if_false];omega
 ·have h1:¬((i:Int)=j):=by omega
  have h2:¬((-1:Int)=j):=by omega
  simp only [hc,upd_ne e,cI,cR,h1,h2,if_false]
theorem gvn_non {s':σ} (hc:S.cur=none):gvn p (⟨s',none,S.bg,S.dn⟩:St σ)=gvn p S:=by
 unfold gvn
 rw [hc]
theorem gvn_at {i r:Nat} (hI:InvT p t S) (hc:S.cur=some (i,r)):gvn p S i=(sz p i:Int)-r:=by
 unfold gvn
 simp only [(hI.c i r hc).1,hc,cI,cR,if_true]
theorem gvn_fi {i r:Nat} (hI:InvT p t S) (hc:S.cur=some (i,r)):gvn p (S.fi i t)=upd (gvn p S) i (sz p i:Nat):=funext fun j=>by
 have hb:=(hI.c i r hc).1
 by_cases e:j=i
 ·subst e
  have h2:¬((-1:Int)=j):=by omega
  unfold gvn
  simp only [upd_same,cI,hb,h2,if_true,if_false]
 ·have h1:¬((i:Int)=j):=by omega
  have h2:¬((-1:Int)=j):=by omega
  rw [upd_ne e]
  unfold gvn
  simp only [hc,cI,h1,h2,if_false]
theorem gvn_cu {i r r':Nat} (hI:InvT p t S) (hc:S.cur=some (i,r)):gvn p (S.cu (some (i,r')))=upd (gvn p S) i ((sz p i:Int)-r'):=funext fun j=>by
 have hb:=(hI.c i r hc).1
 by_cases e:j=i
 ·subst e
  unfold gvn
  simp only [upd_same,cI,cR,hb,if_true]
 ·have h1:¬((i:Int)=j):=by omega
  rw [upd_ne e]
  unfold gvn
  simp only [hc,cI,h1,if_false]
theorem RqS.new {s':σ} {i:Nat} (hp:PL p) (hi:i<p.length):RqS p (⟨s',some (i,sz p i),upd S.bg i true,S.dn⟩:St σ):=fun c hc=>by
 simp only [Option.some.injEq]at hc
 subst hc
 have:=(hp.s i hi).1
 exact⟨by unfold sz;simp only;omega,Nat.le_refl _⟩
end
structure RnD (C:Ch) (p:List Pk) (c N T t:Nat) (ms:List (List Int)):Prop where
 tt:t≤T
 m:Sn N (fun _=>t+1) (4000*t) ms
 q:RqS p (run C p c t)
structure TkD (C:Ch) (p:List Pk) (c N t left:Nat) (S:St C.σ) (ms:List (List Int)):Prop where
 l:left≤4000
 m:Sn N (fun _=>t+2) (4000*(t+1)-left) ms
 q:RqS p S
 i:InvT p t S
 k:tk C p t left S=run C p c (t+1)
 v:Rch C p S.s
theorem RnD.of {C:Ch} {p:List Pk} {c N T t:Nat} {ms:List (List Int)} {S:St C.σ} {B:Int} (hT:t<T) (e:run C p c (t+1)=S) (hm:Sn N (fun _=>t+2) B ms) (hB2:B≤4000*(t+1)) (hq:RqS p S):RnD C p c N T (t+1) ms:=
 ⟨hT,hm.up (by omega),by rw [e];exact hq⟩
theorem RBad_ok (p:List Pk) (c N T:Nat) (h:FitP p c N T):Ctr Tryz.prog 162 [i64 c,i64 N, .psl 3 (pks p),i64 T] [] (fun r o=>o=[]∧r=i64 0):=by
 refine fI 0 Tryz.func162 ?_
 have hpl:=pks_len p
 have h60:=h.hp.l
 have:=h.c1;have:=h.c2;have:=h.n1;have:=h.n2;have:=h.t
 (repeat' (conv=>whnf);first|refine aC ?_ ?_<;>intro<;>try omega|refine z2_T1 ?_|fail);all_goals try (conv=>whnf)
 refine aK [] (rVal13_ok p (by omega)) ?_
 rw [h.vld]
 (repeat' (conv=>whnf);first|refine aC ?_ ?_<;>intro<;>try omega|refine z2_T1 ?_|fail);all_goals try (conv=>whnf)
 refine LoopOb.mk (Y:=Nat) (st:=fun i=>⟨[(10,i64 i),(2, .psl 3 (pks p)),(1,i64 N)],[]⟩)
  (inv:=fun i=>i≤p.length) (fun i=>p.length-i) 0 [] (by omega) (by(exact aL)) ?_
 rintro i hi
 by_cases hil:i<p.length
 ·have hg:=pks_get hil
  have hc:=h.cl i hil
  unfold Mc.cl at hc
  generalize p.getD i pk0=x at*
  (repeat' (conv=>whnf);first|refine⟨i,_,rfl,hg,?_⟩|refine aC ?_ ?_<;>intro<;>try omega|refine z2_T1 ?_|fail);all_goals try (conv=>whnf)
  exact⟨i+1,[],by omega,by omega,by(exact aL)⟩
 ·(repeat' (conv=>whnf);first|refine aC ?_ ?_<;>intro<;>try omega|refine z2_T1 ?_|fail);all_goals try (conv=>whnf)
  exact⟨rfl,rfl⟩
end
section
open Go.Sx Go.Pk Go.Mc
theorem RFa_ok (p:List Pk) (hp:p.length≤1000) (t:Nat) (now:Int) (G dn:Nat→Int) (ms:List (List Int)) (bg:Nat→Bool) (hb:∀i,wt p t (bgO G now) i=wt p t bg i):
  Ctr Tryz.prog 169 [stV t now, .psl 3 (pks p),i64 (-1)] (stO p.length G dn ms) (fun r o=>o=stO p.length G dn ms∧r=i64 (oI (fst (wt p t bg) p.length))):=
 RFirst_ok p hp t now G dn ms (-1) (wt p t bg) fun j hj=>by rw [hb];simp
theorem RFc_ok (p:List Pk) (hp:p.length≤1000) (t:Nat) (now:Int) (G dn:Nat→Int) (ms:List (List Int)) (bg:Nat→Bool) (hb:∀i,wt p t (bgO G now) i=wt p t bg i) (c:Int) (hc:c≠-1):
  Ctr Tryz.prog 169 [stV t now, .psl 3 (pks p),i64 c] (stO p.length G dn ms) (fun r o=>o=stO p.length G dn ms∧r=i64 (oI (fc p (wt p t bg) c))):=
 RFirst_ok p hp t now G dn ms c (fun i=>wt p t bg i && decide (cl p i=c)) fun j hj=>by rw [hb,Bool.and_eq_true,decide_eq_true_iff];exact⟨fun h=>⟨.inr h.2,h.1⟩,fun h=>⟨h.2,h.1.resolve_left hc⟩⟩
theorem DChoP_ok (p:List Pk) (hp:p.length≤1000) (N:Nat) (hN:N≤6) (t:Nat) (now:Int) (G dn:Nat→Int) (ms:List (List Int)) (bg:Nat→Bool) (hb:∀i,wt p t (bgO G now) i=wt p t bg i):
  Ctr Tryz.prog 165 [stV t now, .psl 3 (pks p),i64 N] (stO p.length G dn ms) (fun r o=>o=stO p.length G dn ms∧r=i64 (oI (pri (fc p (wt p t bg)) N))):=by
 refine fI 3 Tryz.func165 ?_
 (repeat' (conv=>whnf);first|refine aC ?_ ?_<;>intro<;>try omega|refine z2_T1 ?_|fail);all_goals try (conv=>whnf)
 refine LoopOb.mk (Y:=Nat) (st:=fun c=>⟨[(7,i64 c),(3, .ptr 3 0),(1, .psl 3 (pks p)),(2,i64 N)],stO p.length G dn ms++[.box [i64 t, .vec 0,i64 now, .vec 1, .vec 2]]⟩)
  (inv:=fun c=>c≤N∧∀d:Nat,d<c→fc p (wt p t bg) d=none) (fun c=>N-c) 0 [0,1,2,3] ⟨by omega,fun d hd=>by omega⟩ (by(exact aL)) ?_
 rintro c ⟨hc,hn⟩
 by_cases hlt:c<N
 ·(repeat' (conv=>whnf);first|refine aC ?_ ?_<;>intro<;>try omega|refine z2_T1 ?_|fail);all_goals try (conv=>whnf)
  refine aK [0,1,2] (RFc_ok p hp t now G dn ms bg hb c (by omega)) ?_
  cases hf:fc p (wt p t bg) c with
  |some i=>
   have hon:oI (some i)=i:=rfl
   have e:=pri_le hn hf (n:=N) (by omega)
   rw [hon]
   (repeat' (conv=>whnf);first|refine aC ?_ ?_<;>intro<;>try omega|refine z2_T1 ?_|fail);all_goals try (conv=>whnf)
   exact⟨rfl,by rw [e];rfl⟩
  |none=>
   have hon:oI none= -1:=rfl
   rw [hon]
   (repeat' (conv=>whnf);first|refine aC ?_ ?_<;>intro<;>try omega|refine z2_T1 ?_|fail);all_goals try (conv=>whnf)
   exact⟨c+1,[0,1,2,3],⟨by omega,fun d hd=>by
    by_cases e:d=c
    ·subst e;exact hf
    ·exact hn d (by omega)⟩,by omega,by(exact aL)⟩
 ·(repeat' (conv=>whnf);first|refine aC ?_ ?_<;>intro<;>try omega|refine z2_T1 ?_|fail);all_goals try (conv=>whnf)
  obtain rfl:N=c:=by omega
  have e:=pri_none.2 hn
  exact⟨rfl,by rw [e];rfl⟩
theorem rob_yes {p:List Pk} {wl:List Int} {N:Nat} (hN:1≤N) (hw:WgP wl N 6000) (hcl:∀i,i<p.length→0≤cl p i∧cl p i<N) {t left:Nat} {bg:Nat→Bool} {s:Nat×Int} (s1:s.1<N) (h:fst (wt p t bg) p.length≠none):
  (rob (fc p (wt p t bg)) (fun c=>wl.getD c 0) N (N+2) s).2 ≠none∧(robinC wl).ch p t left (wt p t bg) s=rob (fc p (wt p t bg)) (fun c=>wl.getD c 0) N (N+2) s:=by
 have h1:(rob (fc p (wt p t bg)) (fun c=>wl.getD c 0) N (N+2) s).2 ≠none:=by
  cases hf:fst (wt p t bg) p.length with
  |none=>exact absurd hf h
  |some i=>
   obtain⟨f1,f2,f3⟩:=fst_some.1 hf
   obtain⟨c1,c2⟩:=hcl i f1
   refine rob_ends hN (fun c hc=>(hw.w c hc).1) (cs:=(cl p i).toNat) (by omega) (fun hn=>?_) s1
   rw [Int.toNat_of_nonneg c1]at hn
   have:=fc_none.1 hn i f1 rfl
   rw [f2]at this;cases this
 refine⟨h1,?_⟩
 refine(if_neg h).trans ?_
 rw [hw.l]
 cases hr:(rob (fc p (wt p t bg)) (fun c=>wl.getD c 0) N (N+2) s).2 with
 |none=>exact absurd hr h1
 |some i=>exact Prod.ext rfl hr.symm
abbrev rdV (s:Nat×Int):SV:= .agg [i64 s.1,i64 s.2]
theorem DChoR_ok (p:List Pk) (hp:p.length≤1000) (wl:List Int) (N:Nat) (hN:1≤N) (hN2:N≤6) (hw:WgP wl N 6000) (t:Nat) (now:Int) (G dn:Nat→Int) (ms:List (List Int)) (bg:Nat→Bool) (hb:∀i,wt p t (bgO G now) i=wt p t bg i)
  (s:Nat×Int) (s1:s.1<N) (s2:0≤s.2) (s3:s.2≤6000) (hne:(rob (fc p (wt p t bg)) (fun c=>wl.getD c 0) N (N+2) s).2 ≠none):
  Ctr Tryz.prog 170 [rdV s,stV t now, .psl 1 (ints wl), .psl 3 (pks p)] (stO p.length G dn ms) (fun r o=>o=stO p.length G dn ms∧r= .tup [rdV (rob (fc p (wt p t bg)) (fun c=>wl.getD c 0) N (N+2) s).1,i64 (oI (rob (fc p (wt p t bg)) (fun c=>wl.getD c 0) N (N+2) s).2)]):=by
 refine fI 3 Tryz.func170 ?_
 have hil:=ints_len wl
 have hwl:=hw.l
 generalize hW:rob (fc p (wt p t bg)) (fun c=>wl.getD c 0) N (N+2) s=W at*
 (repeat' (conv=>whnf);first|refine aC ?_ ?_<;>intro<;>try omega|refine z2_T1 ?_|fail);all_goals try (conv=>whnf)
 refine LoopOb.mk (Y:=Nat×Nat×Int) (st:=fun y=>⟨[(5, .ptr 4 0),(4, .ptr 3 0),(8, .ptr 5 0),(2, .psl 1 (ints wl)),(3, .psl 3 (pks p))],stO p.length G dn ms++[.box [i64 y.2.1,i64 y.2.2], .box [i64 t, .vec 0,i64 now, .vec 1, .vec 2], .box [i64 0,i64 0]]⟩)
  (inv:=fun y=>y.2.1<N∧0≤y.2.2∧y.2.2≤6000∧rob (fc p (wt p t bg)) (fun c=>wl.getD c 0) N y.1 y.2=W) (fun y=>y.1) (N+2,s) [0,1,2,3,4,5] ⟨s1,s2,s3,hW⟩ (by(exact aL)) ?_
 clear hW s1 s2 s3
 clear s
 rintro⟨k,c,l⟩ ⟨h1,h2,h3,hr⟩
 dsimp only at h1 h2 h3 hr⊢
 obtain⟨k,rfl⟩:∃k',k=k'+1:=by
  cases k with
  |zero=>rw [←hr]at hne;exact absurd rfl hne
  |succ k=>exact⟨k,rfl⟩
 rw [rob]at hr
 have hn1:(c+1)%N<N:=Nat.mod_lt _ hN
 have hn2:=hw.w _ hn1
 have hgv:=ints_get (l:=wl) (j:=(c+1)%N) (by omega)
 have etm:((c:Int)+1).tmod (ints wl).length =((c+1)%N:Nat):=by rw [hil,hwl,Int.tmod_eq_emod_of_nonneg (by omega)];rfl
 (repeat' (conv=>whnf);first|refine aC ?_ ?_<;>intro<;>try omega|refine z2_T1 ?_|fail);all_goals try (conv=>whnf)
 refine aK [0,1,2] (RFc_ok p hp t now G dn ms bg hb c (by omega)) ?_
 dsimp only at hr
 cases hf:fc p (wt p t bg) c with
 |some i=>
  have ho3:oI (some i)=i:=rfl
  rw [hf]at hr
  dsimp only at hr
  rw [ho3]
  by_cases hl:0<l
  ·rw [if_pos hl]at hr
   (repeat' (conv=>whnf);first|refine aC ?_ ?_<;>intro<;>try omega|refine z2_T1 ?_|fail);all_goals try (conv=>whnf)
   exact⟨rfl,by rw [←hr];rfl⟩
  ·rw [if_neg hl]at hr
   (repeat' (conv=>whnf);first|refine aC ?_ ?_<;>intro<;>try omega|refine z2_T1 ?_|refine And.intro (by omega) ?_|refine⟨(c+1)%N,_,etm,hgv,?_⟩|fail);all_goals try (conv=>whnf)
   exact⟨(k,(c+1)%N,wl.getD ((c+1)%N) 0),[0,1,2,3,4,5],⟨hn1,by dsimp only;omega,by dsimp only;omega,hr⟩,by dsimp only;omega,by rw [etm];(exact aL)⟩
 |none=>
  have ho3:oI none= -1:=rfl
  rw [hf]at hr
  dsimp only at hr
  rw [ho3]
  (repeat' (conv=>whnf);first|refine aC ?_ ?_<;>intro<;>try omega|refine z2_T1 ?_|refine And.intro (by omega) ?_|refine⟨(c+1)%N,_,etm,hgv,?_⟩|fail);all_goals try (conv=>whnf)
  exact⟨(k,(c+1)%N,wl.getD ((c+1)%N) 0),[0,1,2,3,4,5],⟨hn1,by dsimp only;omega,by dsimp only;omega,hr⟩,by dsimp only;omega,by rw [etm];(exact aL)⟩
end
end Go.Proofs.YtaomhdljcdadaaaGreat
