/- Lemmas that the proofs of this seat use (Sh Mo Mp Mr). Conditions: those that stand in each theorem. -/
import Derived.Test.YtaomhdljcdadaaaGreatTy
import Derived.Shelf.SlLaysF0
import Derived.Shelf.SlLaysC2
import Derived.Shelf.Lays
import Derived.Test.YtaomhdljcdadaaaGreatMn
set_option linter.unusedVariables false
set_option linter.unusedSimpArgs false
section
namespace Go.Proofs.YtaomhdljcdadaaaGreat
open Go.Shelf
def sortW_ren:Go.Shelf.Ren:=⟨fun|6=>92|15=>121|14=>120|28=>160|29=>161|20=>152|21=>153|22=>154|23=>155|24=>156|25=>157|26=>158|27=>159|46=>187|47=>188|48=>189|49=>190|50=>191|57=>200|n=>n,fun|22=>136|24=>138|25=>141|3=>3|39=>158|0=>0|53=>186|55=>189|4=>4|46=>195|45=>194|50=>48|5=>5|9=>9|66=>233|70=>237|76=>244|77=>245|n=>n,fun|n=>n⟩
theorem sortW:Go.Proofs.SlLaysF0.n6 Tryz.prog sortW_ren:={
 mixed:=by kernel_rfl
 f6:=⟨Tryz.f92.name,by decide,Tryz.func92.trans (congrArg some (by kernel_rfl))⟩
 f14:=⟨Tryz.f120.name,by decide,Tryz.func120.trans (congrArg some (by kernel_rfl))⟩
 f15:=Tryz.func121.trans (congrArg some (by kernel_rfl))
 f20:=⟨Tryz.f152.name,by decide,Tryz.func152.trans (congrArg some (by kernel_rfl))⟩
 f21:=⟨Tryz.f153.name,by decide,Tryz.func153.trans (congrArg some (by kernel_rfl))⟩
 f22:=⟨Tryz.f154.name,by decide,Tryz.func154.trans (congrArg some (by kernel_rfl))⟩
 f23:=⟨Tryz.f155.name,by decide,Tryz.func155.trans (congrArg some (by kernel_rfl))⟩
 f24:=⟨Tryz.f156.name,by decide,Tryz.func156.trans (congrArg some (by kernel_rfl))⟩
 f25:=⟨Tryz.f157.name,by decide,Tryz.func157.trans (congrArg some (by kernel_rfl))⟩
 f26:=⟨Tryz.f158.name,by decide,Tryz.func158.trans (congrArg some (by kernel_rfl))⟩
 f27:=⟨Tryz.f159.name,by decide,Tryz.func159.trans (congrArg some (by kernel_rfl))⟩
 f28:=Tryz.func160.trans (congrArg some (by kernel_rfl))
 f29:=Tryz.func161.trans (congrArg some (by kernel_rfl))
 f46:=⟨Tryz.f187.name,by decide,Tryz.func187.trans (congrArg some (by kernel_rfl))⟩
 f47:=Tryz.func188.trans (congrArg some (by kernel_rfl))
 f48:=Tryz.func189.trans (congrArg some (by kernel_rfl))
 f49:=⟨Tryz.f190.name,by decide,Tryz.func190.trans (congrArg some (by kernel_rfl))⟩
 f50:=⟨Tryz.f191.name,by decide,Tryz.func191.trans (congrArg some (by kernel_rfl))⟩
 f57:=⟨Tryz.f200.name,by decide,Tryz.func200.trans (congrArg some (by kernel_rfl))⟩
 t0:=Tryz.underlying0
 a0:=Tryz.isAgg0
 z0:=Tryz.sizeOf0
 v0:=Tryz.zeroValue0
 t3:=Tryz.underlying3
 a3:=Tryz.isAgg3
 z3:=Tryz.sizeOf3
 v3:=Tryz.zeroValue3
 t4:=Tryz.underlying4
 a4:=Tryz.isAgg4
 z4:=Tryz.sizeOf4
 v4:=Tryz.zeroValue4
 t5:=Tryz.underlying5
 a5:=Tryz.isAgg5
 z5:=Tryz.sizeOf5
 v5:=Tryz.zeroValue5
 t9:=Tryz.underlying9
 a9:=Tryz.isAgg9
 z9:=Tryz.sizeOf9
 v9:=Tryz.zeroValue9
 t22:=Tryz.underlying136
 a22:=Tryz.isAgg136
 z22:=Tryz.sizeOf136
 v22:=Tryz.zeroValue136
 t25:=Tryz.underlying141
 a25:=Tryz.isAgg141
 z25:=Tryz.sizeOf141
 v25:=Tryz.zeroValue141
 t39:=Tryz.underlying158
 a39:=Tryz.isAgg158
 z39:=Tryz.sizeOf158
 v39:=Tryz.zeroValue158
 t45:=Tryz.underlying194
 a45:=Tryz.isAgg194
 z45:=Tryz.sizeOf194
 v45:=Tryz.zeroValue194
 t46:=Tryz.underlying195
 a46:=Tryz.isAgg195
 z46:=Tryz.sizeOf195
 v46:=Tryz.zeroValue195
 t50:=Tryz.underlying48
 a50:=Tryz.isAgg48
 z50:=Tryz.sizeOf48
 v50:=Tryz.zeroValue48
 t53:=Tryz.underlying186
 a53:=Tryz.isAgg186
 z53:=Tryz.sizeOf186
 v53:=Tryz.zeroValue186
 t55:=Tryz.underlying189
 a55:=Tryz.isAgg189
 z55:=Tryz.sizeOf189
 v55:=Tryz.zeroValue189
 t66:=Tryz.underlying233
 a66:=Tryz.isAgg233
 z66:=Tryz.sizeOf233
 v66:=Tryz.zeroValue233
 t70:=Tryz.underlying237
 a70:=Tryz.isAgg237
 z70:=Tryz.sizeOf237
 v70:=Tryz.zeroValue237
 t76:=Tryz.underlying244
 a76:=Tryz.isAgg244
 z76:=Tryz.sizeOf244
 v76:=Tryz.zeroValue244
 t77:=Tryz.underlying245
 a77:=Tryz.isAgg245
 z77:=Tryz.sizeOf245
 v77:=Tryz.zeroValue245}
def bitsMul_ren:Go.Shelf.Ren:=⟨fun|212=>115|263=>149|264=>150|n=>n,fun|46=>158|51=>186|146=>187|53=>189|148=>190|n=>n,fun|n=>n⟩
theorem bitsMul:Go.Proofs.Lays.n212 Tryz.prog bitsMul_ren:={
 mixed:=by kernel_rfl
 f212:=Tryz.func115.trans (congrArg some (by kernel_rfl))
 f263:=Tryz.func149.trans (congrArg some (by kernel_rfl))
 f264:=Tryz.func150.trans (congrArg some (by kernel_rfl))
 t46:=Tryz.underlying158
 a46:=Tryz.isAgg158
 z46:=Tryz.sizeOf158
 v46:=Tryz.zeroValue158
 t51:=Tryz.underlying186
 a51:=Tryz.isAgg186
 z51:=Tryz.sizeOf186
 v51:=Tryz.zeroValue186
 t53:=Tryz.underlying189
 a53:=Tryz.isAgg189
 z53:=Tryz.sizeOf189
 v53:=Tryz.zeroValue189
 t146:=Tryz.underlying187
 a146:=Tryz.isAgg187
 z146:=Tryz.sizeOf187
 v146:=Tryz.zeroValue187
 t148:=Tryz.underlying190
 a148:=Tryz.isAgg190
 z148:=Tryz.sizeOf190
 v148:=Tryz.zeroValue190}
end Go.Proofs.YtaomhdljcdadaaaGreat
end
section
namespace Go.Mc
open Go.Pk Go.Np
theorem idx_nat {l:Nat}:∀{rt:List Int},(∀x∈rt,0≤x)→(rt.map Int.toNat).idxOf l=rt.idxOf (l:Int)∧(l∈rt.map Int.toNat↔(l:Int)∈rt)
 |[],_=>by simp
 |x::rt,h=>by
  obtain⟨h1,h2⟩:=idx_nat (l:=l) (rt:=rt) fun y hy=>h y (by simp [hy])
  have hx:=h x (by simp)
  by_cases e:x=(l:Int)
  ·subst e;simp
  ·have e2:¬x.toNat=l:=by omega
   refine⟨?_,?_⟩
   ·rw [List.map_cons,List.idxOf_cons,List.idxOf_cons,h1]
    have b1:(x.toNat==l)=false:=by simp [e2]
    have b2:(x==(l:Int))=false:=by simp [e]
    rw [b1,b2]
   ·rw [List.map_cons,List.mem_cons,List.mem_cons,h2]
    constructor
    ·rintro(h|h)
     ·exact absurd h.symm e2
     ·exact .inr h
    ·rintro(h|h)
     ·exact absurd h.symm e
     ·exact .inr h
structure RtP (n:Nt) (p:List Pk):Prop where
 f:∀i,i<p.length→0≤(p.getD i pk0).f ∧(p.getD i pk0).f <n.fl.length
 r:∀i,i<p.length→∀x∈(pfl n (p.getD i pk0)).rt,0≤x
theorem hop_hp {n:Nt} {p:List Pk} (hR:RtP n p) {i l:Nat} (hi:i<p.length):hop n (p.getD i pk0).f l=match hp (toF n p) l i with
  |some h=>(h:Int)
  |none=> -1:=by
 obtain⟨f1,f2⟩:=hR.f i hi
 obtain⟨h1,h2⟩:=idx_nat (l:=l) (hR.r i hi)
 unfold hop hp
 rw [if_neg (by omega)]
 show(if(l:Int)∈(pfl n (p.getD i pk0)).rt then(((pfl n (p.getD i pk0)).rt.idxOf (l:Int):Nat):Int)else-1)=_
 by_cases hm:(l:Int)∈(pfl n (p.getD i pk0)).rt
 ·rw [if_pos hm,if_pos (show l∈(toF n p).rt i from h2.2 hm)]
  show _=((((pfl n (p.getD i pk0)).rt.map Int.toNat).idxOf l:Nat):Int)
  rw [h1]
 ·rw [if_neg hm,if_neg (show¬l∈(toF n p).rt i from fun h=>hm (h2.1 h))]
theorem hop_neg {n:Nt} {p:List Pk} (hR:RtP n p) {i:Nat} {l:Int} (hl:l<0) (hi:i<p.length):hop n (p.getD i pk0).f l= -1:=by
 obtain⟨f1,f2⟩:=hR.f i hi
 unfold hop
 rw [if_neg (by omega),if_neg fun hm=>by have:=hR.r i hi l hm;omega]
def arL (n:Nt) (p:List Pk) (D:Tp) (l:Int) (i:Nat):Option Int:=if l<0 then none else match hp (toF n p) l.toNat i with
 |some h=>arr (toF n p) D i h
 |none=>none
theorem arO_arL {n:Nt} {p:List Pk} (hR:RtP n p) {D:Tp} {l:Int} {i:Nat} (hi:i<p.length):arO n p D i (hop n (p.getD i pk0).f l)=arL n p D l i:=by
 obtain⟨f1,f2⟩:=hR.f i hi
 unfold arL
 by_cases hl:l<0
 ·rw [if_pos hl,hop_neg hR hl hi,arO_neg (.inl (by omega))]
 ·rw [if_neg hl]
  obtain⟨l,rfl⟩:∃k:Nat,l=k:=⟨l.toNat,by omega⟩
  rw [hop_hp hR hi,Int.toNat_natCast]
  cases hh:hp (toF n p) l i with
  |none=>exact arO_neg (.inl (by simp only;omega))
  |some h=>
   have h1:=hp_some hh
   have h2:h<(pfl n (p.getD i pk0)).rt.length :=by simpa [toF]using h1.1
   have h3:hps n p i=((pfl n (p.getD i pk0)).rt.length :Nat):=by
    unfold hps
    rw [Int.toNat_natCast,if_neg (by omega)]
   simp only
   unfold arO
   rw [h3,if_neg (by omega),Int.toNat_natCast,Int.toNat_natCast]
noncomputable def quL (n:Nt) (p:List Pk) (D:Tp) (l:Int):Nat→List Wt
 |0=>[]
 |i+1=>match arL n p D l i with
  |none=>quL n p D l i
  |some a=>insW ⟨a,(p.getD i pk0).f,i⟩ (quL n p D l i)
theorem quL_nat {n:Nt} {p:List Pk} {D:Tp} {l:Nat}:∀i,quL n p D l i=quN (toF n p) D l i
 |0=>rfl
 |i+1=>by
  simp only [quL,quN,quL_nat i]
  unfold arL
  rw [if_neg (by omega),Int.toNat_natCast]
  cases hp (toF n p) l i with
  |none=>rfl
  |some h=>rfl
theorem quL_neg {n:Nt} {p:List Pk} {D:Tp} {l:Int} (h:l<0):∀i,quL n p D l i=[]
 |0=>rfl
 |i+1=>by
  simp only [quL,quL_neg h i]
  unfold arL
  rw [if_pos h]
theorem quL_ok {n:Nt} {p:List Pk} {D:Tp} {l:Int} (i:Nat):(quL n p D l i).Pairwise Wt.lt∧∀x∈quL n p D l i,x.i<i:=by
 by_cases h:l<0
 ·rw [quL_neg h];exact⟨List.Pairwise.nil,fun x hx=>by simp at hx⟩
 ·obtain⟨l,rfl⟩:∃k:Nat,l=k:=⟨l.toNat,by omega⟩
  rw [quL_nat]
  obtain⟨h1,h2⟩:=quN_ok (toF n p) D l i
  exact⟨h1,fun x hx=>((h2 x).1 hx).1⟩
theorem insW_stop {x:Wt}:∀{pre suf:List Wt},(pre++suf).Pairwise Wt.lt→(∀y∈suf,x.lt y)→(∀y,pre.getLast? =some y→¬x.lt y)→insW x (pre++suf)=pre++x::suf
 |[],[],_,_,_=>rfl
 |[],y::q,_,h,_=>by
  simp only [List.nil_append,insW]
  rw [if_pos (h y (by simp))]
 |z::pre,suf,h,hs,hl=>by
  have h2:=List.pairwise_cons.1 h
  have hz:¬x.lt z:=by
   cases pre with
   |nil=>exact hl z (by simp)
   |cons w pre=>
    intro hx
    obtain⟨u,hu⟩:∃u,(w::pre).getLast? =some u:=⟨_,List.getLast?_eq_some_getLast (by simp)⟩
    have hm:u∈w::pre++suf:=List.mem_append_left _ (List.mem_of_getLast? hu)
    exact hl u (by rw [List.getLast?_cons_cons];exact hu) (Wt.lt_tr hx (h2.1 u hm))
  simp only [List.cons_append,insW]
  rw [if_neg hz,insW_stop h2.2 hs fun y hy=>?_]
  cases pre with
  |nil=>simp at hy
  |cons w pre=>exact hl y (by rw [List.getLast?_cons_cons];exact hy)
theorem quL_at {n:Nt} {p:List Pk} {D:Tp} {l:Int}:∀(i:Nat),∀x∈quL n p D l i,x.i<i∧x.f=(p.getD x.i pk0).f ∧arL n p D l x.i=some x.a
 |0,x,h=>by simp [quL]at h
 |i+1,x,h=>by
  simp only [quL]at h
  cases ha:arL n p D l i with
  |none=>
   rw [ha]at h
   obtain⟨h1,h2⟩:=quL_at i x h
   exact⟨by omega,h2⟩
  |some a=>
   rw [ha]at h
   rcases insW_mem.1 h with rfl|h
   ·exact⟨by simp,rfl,ha⟩
   ·obtain⟨h1,h2⟩:=quL_at i x h
    exact⟨by omega,h2⟩
theorem quL_len {n:Nt} {p:List Pk} {D:Tp} {l:Int}:∀(i:Nat),(quL n p D l i).length ≤i
 |0=>by simp [quL]
 |i+1=>by
  have ih:=quL_len (n:=n) (p:=p) (D:=D) (l:=l) i
  have hin:∀(x:Wt) (q:List Wt),(insW x q).length =q.length+1:=by
   intro x q
   induction q with
   |nil=>rfl
   |cons y q ih=>simp only [insW];split<;>simp [ih]
  simp only [quL]
  cases arL n p D l i with
  |none=>simp only;omega
  |some a=>simp only [hin];omega
end Go.Mc
end
section
namespace Go.Mc
open Go.Pk Go.Np
def arQ (n:Nt) (p:List Pk) (D:Tp) (l:Int):Nat→List Wt
 |0=>[]
 |i+1=>match arL n p D l i with
  |none=>arQ n p D l i
  |some a=>arQ n p D l i++[⟨a,(p.getD i pk0).f,i⟩]
theorem arQ_mem {n:Nt} {p:List Pk} {D:Tp} {l:Int} {x:Wt}:∀{i:Nat},x∈arQ n p D l i↔x.i<i∧x.f=(p.getD x.i pk0).f ∧arL n p D l x.i=some x.a
 |0=>by simp [arQ]
 |i+1=>by
  have ih:=arQ_mem (n:=n) (p:=p) (D:=D) (l:=l) (x:=x) (i:=i)
  simp only [arQ]
  cases ha:arL n p D l i with
  |none=>
   simp only
   rw [ih]
   constructor
   ·rintro⟨h1,h2⟩;exact⟨by omega,h2⟩
   ·rintro⟨h1,h2,h3⟩
    refine⟨?_,h2,h3⟩
    rcases Nat.lt_succ_iff_lt_or_eq.1 h1 with h|h
    ·exact h
    ·rw [h,ha]at h3;cases h3
  |some a=>
   simp only
   rw [List.mem_append,ih,List.mem_singleton]
   constructor
   ·rintro(⟨h1,h2⟩|rfl)
    ·exact⟨by omega,h2⟩
    ·exact⟨by simp,rfl,ha⟩
   ·rintro⟨h1,h2,h3⟩
    rcases Nat.lt_succ_iff_lt_or_eq.1 h1 with h|h
    ·exact .inl ⟨h,h2,h3⟩
    ·refine .inr ?_
     rw [h,ha]at h3
     rw [h]at h2
     exact Wt.ext' (Option.some.inj h3).symm h2 h
theorem quL_mem {n:Nt} {p:List Pk} {D:Tp} {l:Int} {x:Wt}:∀{i:Nat},x∈quL n p D l i↔x.i<i∧x.f=(p.getD x.i pk0).f ∧arL n p D l x.i=some x.a
 |0=>by simp [quL]
 |i+1=>by
  have ih:=quL_mem (n:=n) (p:=p) (D:=D) (l:=l) (x:=x) (i:=i)
  simp only [quL]
  cases ha:arL n p D l i with
  |none=>
   simp only
   rw [ih]
   constructor
   ·rintro⟨h1,h2⟩;exact⟨by omega,h2⟩
   ·rintro⟨h1,h2,h3⟩
    refine⟨?_,h2,h3⟩
    rcases Nat.lt_succ_iff_lt_or_eq.1 h1 with h|h
    ·exact h
    ·rw [h,ha]at h3;cases h3
  |some a=>
   simp only
   rw [insW_mem,ih]
   constructor
   ·rintro(rfl|⟨h1,h2⟩)
    ·exact⟨by simp,rfl,ha⟩
    ·exact⟨by omega,h2⟩
   ·rintro⟨h1,h2,h3⟩
    rcases Nat.lt_succ_iff_lt_or_eq.1 h1 with h|h
    ·exact .inr ⟨h,h2,h3⟩
    ·refine .inl ?_
     rw [h,ha]at h3
     rw [h]at h2
     exact Wt.ext' (Option.some.inj h3).symm h2 h
theorem arQ_nodup {n:Nt} {p:List Pk} {D:Tp} {l:Int}:∀i,(arQ n p D l i).Nodup
 |0=>by simp [arQ]
 |i+1=>by
  simp only [arQ]
  cases ha:arL n p D l i with
  |none=>exact arQ_nodup i
  |some a=>
   simp only
   rw [List.nodup_append]
   refine⟨arQ_nodup i,by simp,fun x hx y hy=>?_⟩
   rw [List.mem_singleton]at hy
   have:=(arQ_mem.1 hx).1
   rintro rfl
   rw [hy]at this
   simp at this
theorem arQ_len {n:Nt} {p:List Pk} {D:Tp} {l:Int}:∀i,(arQ n p D l i).length ≤i
 |0=>by simp [arQ]
 |i+1=>by
  have:=arQ_len (n:=n) (p:=p) (D:=D) (l:=l) i
  simp only [arQ]
  cases arL n p D l i with
  |none=>simp only;omega
  |some a=>simp only [List.length_append,List.length_singleton];omega
theorem sort_quL {n:Nt} {p:List Pk} {D:Tp} {l:Int} {i:Nat} {q:List Wt} (hp:q.Perm (arQ n p D l i)) (hs:q.Pairwise fun x y=>¬y.lt x):q=quL n p D l i:=by
 have hnd:q.Nodup:=hp.nodup_iff.2 (arQ_nodup i)
 refine ord_uniq ?_ (quL_ok i).1 fun x=>by rw [hp.mem_iff,arQ_mem,quL_mem]
 have:q.Pairwise fun x y=>¬y.lt x∧x≠y:=List.Pairwise.and hs hnd
 refine this.imp fun {x y} h=>?_
 rcases Wt.lt_tri x y with k|k|k
 ·exact k
 ·exact absurd k h.2
 ·exact absurd k h.1
def cmpI (x y:Int):Int:=if x<y then-1 else if y<x then 1 else 0
def cmpW (x y:Wt):Int:=if cmpI x.a y.a≠0 then cmpI x.a y.a else if cmpI x.f y.f≠0 then cmpI x.f y.f else cmpI x.i y.i
theorem cmpW_lt {x y:Wt}:cmpW x y<0↔x.lt y:=by
 unfold cmpW cmpI Wt.lt
 constructor
 ·intro h
  (repeat' split at h)<;>omega
 ·intro h
  (repeat' split)<;>omega
end Go.Mc
end
section
namespace Go.Mc
open Go.Pk Go.Np
noncomputable def nteM (F:Tf) (Z:Li) (N:Nat) (l:Nat) (ms:List (List Int)) (S:Nat→Bool):List (List Int):=
 ms.mapIdx fun i row=>row.mapIdx fun h v=>if S i=true∧hp F l i=some h then pas F Z N (dR ms) l i else v
noncomputable def pasM (F:Tf) (Z:Li) (N:Nat) (l:Nat) (ms:List (List Int)):List (List Int):=nteM F Z N l ms fun _=>true
def ChgM (F:Tf) (Z:Li) (N:Nat) (l:Nat) (ms:List (List Int)) (S:Nat→Bool):Prop:=∃i h,i<F.np∧S i=true∧hp F l i=some h∧pas F Z N (dR ms) l i≠dR ms i h
variable {F:Tf} {Z:Li} {N l:Nat} {ms:List (List Int)} {S:Nat→Bool}
theorem nte_len:(nteM F Z N l ms S).length =ms.length:=by simp [nteM]
theorem nte_row {i:Nat}:(nteM F Z N l ms S).getD i []=(ms.getD i []).mapIdx fun h v=>if S i=true∧hp F l i=some h then pas F Z N (dR ms) l i else v:=by
 unfold nteM
 rw [List.getD_eq_getElem?_getD,List.getElem?_mapIdx,List.getD_eq_getElem?_getD]
 cases ms[i]? <;>simp
theorem nte_rlen {i:Nat}:((nteM F Z N l ms S).getD i []).length =(ms.getD i []).length :=by rw [nte_row];simp
theorem nte_at {i h:Nat} (hh:h<(ms.getD i []).length):dR (nteM F Z N l ms S) i h=if S i=true∧hp F l i=some h then pas F Z N (dR ms) l i else dR ms i h:=by
 show((nteM F Z N l ms S).getD i []).getD h (-1)=if S i=true∧hp F l i=some h then pas F Z N (dR ms) l i else(ms.getD i []).getD h (-1)
 rw [nte_row]
 generalize ms.getD i []=row at hh⊢
 simp only [List.getD_eq_getElem?_getD,List.getElem?_mapIdx,List.getElem?_eq_getElem hh,Option.map_some,Option.getD_some]
theorem rows_ext {ms ms':List (List Int)} (h1:ms.length=ms'.length) (h2:∀i,(ms.getD i []).length =(ms'.getD i []).length) (h3:∀i h,i<ms.length→h<(ms.getD i []).length →dR ms i h=dR ms' i h):ms=ms':=by
 refine List.ext_getElem h1 fun i a b=>?_
 have e1:ms.getD i []=ms[i]:=by rw [List.getD_eq_getElem?_getD,List.getElem?_eq_getElem a];rfl
 have e2:ms'.getD i []=ms'[i]:=by rw [List.getD_eq_getElem?_getD,List.getElem?_eq_getElem b];rfl
 have h2:=h2 i
 have h3:=h3 i
 unfold dR at h3
 rw [e1,e2]at h2
 rw [e1,e2]at h3
 refine List.ext_getElem h2 fun h c d=>?_
 have:=h3 h a c
 rw [List.getD_eq_getElem?_getD,List.getElem?_eq_getElem c,List.getD_eq_getElem?_getD,List.getElem?_eq_getElem d]at this
 exact this
theorem nte_none (h:∀i,i<ms.length→∀k,S i=true→hp F l i≠some k):nteM F Z N l ms S=ms:=
 rows_ext nte_len (fun _=>nte_rlen) fun i k hi hk=>by
  rw [nte_len]at hi
  rw [nte_rlen]at hk
  rw [nte_at hk,if_neg fun e=>h i hi k e.1 e.2]
theorem nte_step {S':Nat→Bool} {i h:Nat} (hi:i<ms.length) (hh:hp F l i=some h) (h1:S' i=true) (h2:∀j,j≠i→S' j=S j):
  (nteM F Z N l ms S).set i (((nteM F Z N l ms S).getD i []).set h (pas F Z N (dR ms) l i))=nteM F Z N l ms S':=by
 have hi':i<(nteM F Z N l ms S).length :=by rw [nte_len];exact hi
 have er:∀(r:List Int) (j:Nat),((nteM F Z N l ms S).set i r).getD j []=if j=i then r else(nteM F Z N l ms S).getD j []:=fun r j=>by
  rw [List.getD_eq_getElem?_getD,List.getElem?_set,List.getD_eq_getElem?_getD]
  by_cases e:i=j
  ·subst e;simp [hi']
  ·rw [if_neg e,if_neg (Ne.symm e)]
 refine rows_ext (by simp [nte_len]) (fun j=>?_) fun j k hj hk=>?_
 ·rw [er]
  split
  ·rename_i e;subst e;rw [List.length_set,nte_rlen,nte_rlen]
  ·rw [nte_rlen,nte_rlen]
 ·rw [er]at hk
  unfold dR
  rw [er]
  split
  ·rename_i e
   subst e
   rw [if_pos rfl,List.length_set]at hk
   have hk2:=hk
   rw [nte_rlen]at hk2
   have:=nte_at (F:=F) (Z:=Z) (N:=N) (l:=l) (S:=S') hk2
   have h0:=nte_at (F:=F) (Z:=Z) (N:=N) (l:=l) (S:=S) hk2
   unfold dR at this h0
   rw [this,List.getD_eq_getElem?_getD,List.getElem?_set]
   by_cases e:h=k
   ·subst e;rw [if_pos rfl,if_pos hk,if_pos ⟨h1,hh⟩];rfl
   ·rw [if_neg e,←List.getD_eq_getElem?_getD,h0,if_neg fun c=>e (by have:=c.2;rw [hh]at this;exact Option.some.inj this),if_neg fun c=>e (by have:=c.2;rw [hh]at this;exact Option.some.inj this)]
  ·rename_i e
   rw [if_neg e,nte_rlen]at hk
   have:=nte_at (F:=F) (Z:=Z) (N:=N) (l:=l) (S:=S') hk
   have h0:=nte_at (F:=F) (Z:=Z) (N:=N) (l:=l) (S:=S) hk
   unfold dR at this h0
   rw [this,h0,h2 j e]
theorem nte_skip {S':Nat→Bool} {i:Nat} (hh:hp F l i=none∨S i=true) (h1:S' i=true) (h2:∀j,j≠i→S' j=S j):nteM F Z N l ms S=nteM F Z N l ms S':=
 rows_ext (by rw [nte_len,nte_len]) (fun _=>by rw [nte_rlen,nte_rlen]) fun j k hj hk=>by
  rw [nte_rlen]at hk
  rw [nte_at hk,nte_at hk]
  by_cases e:j=i
  ·subst e
   rcases hh with hh|hh
   ·rw [hh];simp
   ·rw [hh,h1]
  ·rw [h2 j e]
theorem nte_old {i h:Nat} (hh:h<(ms.getD i []).length) (hS:S i=false):dR (nteM F Z N l ms S) i h=dR ms i h:=by
 rw [nte_at hh,if_neg];rintro⟨e,_⟩;rw [hS]at e;cases e
theorem chg_step {S':Nat→Bool} {i h:Nat} (hi:i<F.np) (hh:hp F l i=some h) (h1:S' i=true) (h2:∀j,j≠i→S' j=S j):ChgM F Z N l ms S'↔ChgM F Z N l ms S∨pas F Z N (dR ms) l i≠dR ms i h:=by
 constructor
 ·rintro⟨j,k,a,b,c,d⟩
  by_cases e:j=i
  ·subst e
   have:h=k:=by rw [hh]at c;exact Option.some.inj c
   subst this
   exact .inr d
  ·exact .inl ⟨j,k,a,by rw [←h2 j e];exact b,c,d⟩
 ·rintro(⟨j,k,a,b,c,d⟩|h)
  ·refine⟨j,k,a,?_,c,d⟩
   by_cases e:j=i
   ·subst e;exact h1
   ·rw [h2 j e];exact b
  ·exact⟨i,_,hi,h1,hh,h⟩
theorem chg_skip {S':Nat→Bool} {i:Nat} (hh:hp F l i=none∨S i=true) (h1:S' i=true) (h2:∀j,j≠i→S' j=S j):ChgM F Z N l ms S'↔ChgM F Z N l ms S:=by
 constructor
 ·rintro⟨j,k,a,b,c,d⟩
  by_cases e:j=i
  ·subst e
   rcases hh with hh|hh
   ·rw [hh]at c;cases c
   ·exact⟨j,k,a,hh,c,d⟩
  ·exact⟨j,k,a,by rw [←h2 j e];exact b,c,d⟩
 ·rintro⟨j,k,a,b,c,d⟩
  refine⟨j,k,a,?_,c,d⟩
  by_cases e:j=i
  ·subst e;exact h1
  ·rw [h2 j e];exact b
structure ShM (F:Tf) (N:Nat) (ms:List (List Int)):Prop where
 l:ms.length=F.np
 r:∀i,i<F.np→(ms.getD i []).length =(F.rt i).length
 b:∀i h,i<F.np→h<(F.rt i).length →-1≤dR ms i h∧dR ms i h<N
theorem pasM_sh (h:ShM F N ms):ShM F N (pasM F Z N l ms):=
 ⟨by rw [pasM,nte_len,h.l],fun i hi=>by rw [pasM,nte_rlen,h.r i hi],fun i k hi hk=>by
  rw [pasM,nte_at (by rw [h.r i hi];exact hk)]
  split
  ·rcases pas_bd F Z N (dR ms) l i with e|⟨e1,e2,_⟩
   ·have:=h.b i k hi hk
    omega
   ·omega
  ·exact h.b i k hi hk⟩
theorem pasM_at (hR:Rts F) (hr:∀i,i<F.np→(ms.getD i []).length =(F.rt i).length) {i k:Nat} (hi:i<F.np) (hk:k<(F.rt i).length):dR (pasM F Z N l ms) i k=if lin F i k=l then pas F Z N (dR ms) l i else dR ms i k:=by
 rw [pasM,nte_at (by rw [hr i hi];exact hk)]
 by_cases e:lin F i k=l
 ·rw [if_pos e,if_pos ⟨rfl,by rw [←e];exact hp_lin hR hi hk⟩]
 ·rw [if_neg e,if_neg fun c=>e (hp_some c.2).2]
noncomputable def trR (F:Tf) (Z:Li) (N:Nat):List (List Int):=(List.range F.np).map fun i=>(List.range (F.rt i).length).map fun h=>tr F Z N i h
theorem trR_at {i h:Nat} (hi:i<F.np) (hh:h<(F.rt i).length):dR (trR F Z N) i h=tr F Z N i h:=by
 unfold dR trR
 simp [List.getD_eq_getElem?_getD,hi,hh]
theorem trR_rlen {i:Nat} (hi:i<F.np):((trR F Z N).getD i []).length =(F.rt i).length :=by
 unfold trR
 simp [List.getD_eq_getElem?_getD,hi]
theorem trR_len:(trR F Z N).length =F.np:=by simp [trR]
theorem trR_eq (hl:ms.length=F.np) (hr:∀i,i<F.np→(ms.getD i []).length =(F.rt i).length) (e:∀i k,i<F.np→k<(F.rt i).length →dR ms i k=tr F Z N i k):ms=trR F Z N:=
 rows_ext (by rw [trR_len,hl]) (fun i=>by
  by_cases hi:i<F.np
  ·rw [trR_rlen hi,hr i hi]
  ·rw [List.getD_eq_getElem?_getD,List.getElem?_eq_none (by rw [hl];omega),List.getD_eq_getElem?_getD,List.getElem?_eq_none (by rw [trR_len];omega)]) fun i k hi hk=>by
  rw [hl]at hi
  rw [hr i hi]at hk
  rw [e i k hi hk,trR_at hi hk]
def AgL (F:Tf) (Z:Li) (N k l:Nat) (D:Tp):Prop:=∀i h,i<F.np→h<(F.rt i).length →Av (if lin F i h<l then k+1 else k) (D i h) (tr F Z N i h)
theorem AgL.ag {k l:Nat} {D:Tp} (h:AgL F Z N k l D):Ag F k D (tr F Z N):=fun i h1 a b=>(h i h1 a b).le (by split<;>omega)
theorem AgL.step (hR:Rts F) {k l:Nat} (hS:ShM F N ms) (h:AgL F Z N k l (dR ms)):AgL F Z N k (l+1) (dR (pasM F Z N l ms)):=by
 intro i j hi hj
 rw [pasM_at hR hS.r hi hj]
 by_cases e:lin F i j=l
 ·rw [if_pos e,if_pos (by omega),←e]
  exact tr_step hR Z h.ag hi hj
 ·rw [if_neg e]
  have:=h i j hi hj
  by_cases c:lin F i j<l
  ·rw [if_pos (by omega)];rw [if_pos c]at this;exact this
  ·rw [if_neg (by omega)];rw [if_neg c]at this;exact this
theorem AgL.zero {k:Nat} {D:Tp} (h:Ag F k D (tr F Z N)):AgL F Z N k 0 D:=fun i j hi hj=>by rw [if_neg (by omega)];exact h i j hi hj
def LnP (F:Tf) (Z:Li):Prop:=∀i h,i<F.np→h<(F.rt i).length →lin F i h<Z.n
theorem AgL.done {k:Nat} {D:Tp} (hL:LnP F Z) (h:AgL F Z N k Z.n D):Ag F (k+1) D (tr F Z N):=fun i j hi hj=>by have:=h i j hi hj;rw [if_pos (hL i j hi hj)]at this;exact this
theorem ag_end (hR:Rts F) {k:Nat} (hk:N≤k) (hS:ShM F N ms) (h:Ag F k (dR ms) (tr F Z N)):ms=trR F Z N:=by
 refine trR_eq hS.l hS.r fun i j hi hj=>?_
 have h1:=h i j hi hj
 have h2:=hS.b i j hi hj
 rcases tr_bd hR Z N hi hj with e|⟨e1,e2,_⟩
 ·by_cases c:0≤dR ms i j
  ·exact h1 (.inl ⟨c,by omega⟩)
  ·omega
 ·exact h1 (.inr ⟨e1,by omega⟩)
theorem pasM_same (hR:Rts F) (hl:ms.length=F.np) (hr:∀i,i<F.np→(ms.getD i []).length =(F.rt i).length) (h:¬ChgM F Z N l ms fun _=>true):pasM F Z N l ms=ms:=
 rows_ext (by rw [pasM,nte_len]) (fun _=>by rw [pasM,nte_rlen]) fun i j hi hj=>by
  rw [pasM,nte_len,hl]at hi
  rw [pasM,nte_rlen,hr i hi]at hj
  rw [pasM_at hR hr hi hj]
  split
  ·rename_i e
   refine Classical.byContradiction fun hne=>h ⟨i,j,hi,rfl,?_,hne⟩
   rw [←e];exact hp_lin hR hi hj
  ·rfl
theorem con_end (hR:Rts F) (hL:LnP F Z) (hl:ms.length=F.np) (hr:∀i,i<F.np→(ms.getD i []).length =(F.rt i).length) (h:∀l,l<Z.n→¬ChgM F Z N l ms fun _=>true):ms=trR F Z N:=by
 have hC:Con F Z N (dR ms):=fun i j hi hj=>by
  refine Classical.byContradiction fun hne=>h (lin F i j) (hL i j hi hj) ⟨i,j,hi,rfl,hp_lin hR hi hj,fun e=>hne e.symm⟩
 exact trR_eq hl hr fun i j hi hj=>tr_uniq hR Z hC i j hi hj
theorem tr_fix (hR:Rts F):¬ChgM F Z N l (trR F Z N) fun _=>true:=by
 rintro⟨i,h,hi,_,hh,hne⟩
 obtain⟨h1,h2⟩:=hp_some hh
 have hS:Same F (dR (trR F Z N)) (tr F Z N) l N:=same_of (fun i j hi hj=>by rw [trR_at hi hj];exact Av.refl) (tr_mon hR Z N) l
 rw [trR_at hi h1,pas_end ((pas_same (N:=N) hS i).le (Nat.le_succ N)),tr_con hR Z N i h hi h1,h2]at hne
 exact hne rfl
theorem trR_sh (hR:Rts F):ShM F N (trR F Z N):=
 ⟨trR_len,fun i hi=>trR_rlen hi,fun i h hi hh=>by
  rw [trR_at hi hh]
  rcases tr_bd hR Z N hi hh with e|⟨e1,e2,_⟩<;>omega⟩
end Go.Mc
end
