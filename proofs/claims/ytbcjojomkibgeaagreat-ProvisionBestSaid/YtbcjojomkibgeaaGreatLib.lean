/- Lemmas of this seat. Conditions: as stated. -/
import Derived.Test.YtbcjojomkibgeaaGreatTy
import Derived.Test.YtbcjojomkibgeaaGreatSxC
import Derived.Test.YtbcjojomkibgeaaGreatRows
import Derived.WalkKit
import Derived.ProofKit
set_option linter.unusedVariables false
set_option linter.unusedSimpArgs false
set_option maxRecDepth 100000
namespace Go.Proofs.YtbcjojomkibgeaaGreat
section
open Go.Sx
theorem ints_get {l:List Int} {j:Nat} (h:j<l.length):(ints l)[j]? =some [.num .i64 (l.getD j 0)]:=by
 simp [ints,List.getElem?_map,List.getElem?_eq_getElem h]
theorem ints_len (l:List Int):(ints l).length =l.length:=by simp [ints]
theorem tdiv_bd {a b:Int} (h:0≤a) (hb:1≤b):a.tdiv b=a/b∧0≤a/b∧a/b≤a:=by
 refine⟨Int.tdiv_eq_ediv_of_nonneg h,Int.ediv_nonneg h (by omega),Int.ediv_le_self _ h⟩
theorem Ctr.imp {P f args own own'} {s:SV} (h:Ctr P f args own (fun r o=>o=own'∧Imp r s)):Ctr P f args own (fun r o=>o=own'∧r=s):=
 ⟨h.1,fun w σ β vs h1 h2=>(h.2 w σ β vs h1 h2).mono fun _ _ ⟨v,σ',β',own',_,a,b,c,d,e1,e2⟩=>⟨v,σ',β',own',s,a,b,c,e2 _ _ _ d,e1,rfl⟩⟩
theorem Ctr.impE {P f args own} {α:Type} {Q:α→Prop} {s:α→SV} {ow:α→List Chunk} (h:Ctr P f args own (fun r o=>∃x,Q x∧o=ow x∧Imp r (s x))):Ctr P f args own (fun r o=>∃x,Q x∧o=ow x∧r=s x):=
 ⟨h.1,fun w σ β vs h1 h2=>(h.2 w σ β vs h1 h2).mono fun _ _ ⟨v,σ',β',own',_,a,b,c,d,x,e0,e1,e2⟩=>⟨v,σ',β',own',s x,a,b,c,e2 _ _ _ d,x,e0,e1,rfl⟩⟩
theorem aG {P:Program} {t:Nat} {K:Prop} (hk:K) (h:(plainTy P 6 t && !(P.eqGuardType P.depth t))=true:=by decide+kernel):AggOb P t K:= .mk h hk
theorem aI {l:List Int} {j:Nat} {K:Nat→List SV→Prop} (hk:K j [.num .i64 (l.getD j 0)]) (h:j<l.length:=by first|omega|(simp only [ints_len]at*;omega)):∃(i:Nat) (row:List SV),(j:Int)=(i:Int)∧(ints l)[i]? =some row∧K i row:=⟨_,_,rfl,ints_get h,hk⟩
theorem aJ {l:List Int} {x:Int} {K:Nat→List SV→Prop} (hk:K x.toNat [.num .i64 (l.getD x.toNat 0)]) (h:0≤x:=by first|omega|(simp only [ints_len]at*;omega)) (h2:x.toNat<l.length:=by first|omega|(simp only [ints_len]at*;omega)):∃(i:Nat) (row:List SV),x=(i:Int)∧(ints l)[i]? =some row∧K i row:=⟨_,_,(Int.toNat_of_nonneg h).symm,ints_get h2,hk⟩
theorem aL {n:Nat} {hs:List Nat} {S S':SS} (h1:okHs n hs S'=true:=by kernel_rfl)
  (h2:LeO S.own (gets hs) hs S'.own:=by repeat' (first|exact True.intro|refine And.intro ?_ ?_|exact Imp.refl _|exact Imp.any _|exact Imp.num (by first|omega|simp only [ints_len])|exact rfl|exact Imp.bl (by simp)))
  (h3:LeT (gets hs) S S S'.tm:=by repeat' (first|exact True.intro|refine And.intro ?_ ?_|exact Imp.refl _|exact Imp.any _|exact Imp.num (by first|omega|simp only [ints_len])|exact rfl|exact Imp.bl (by simp))):Le n hs S S':=⟨h1,h2,h3⟩
theorem zA {α:Type} {a b:List α}:(a++b).length =a.length+b.length:=List.length_append
theorem zT {α:Type} {n:Nat} {a:List α}:(a.take n).length =min n a.length:=List.length_take
theorem zD {α:Type} {n:Nat} {a:List α}:(a.drop n).length =a.length-n:=List.length_drop
theorem zC {α:Type} {x:α} {a:List α}:(x::a).length =a.length+1:=List.length_cons
theorem zN {α:Type}:([]:List α).length =0:=rfl
theorem zR {α:Type} {n:Nat} {x:α}:(List.replicate n x).length =n:=List.length_replicate
class StpC (G:Prop) (b R:outParam Prop):Prop where
 h:b→R→G
instance {x:Int} {k:Int→Prop}:StpC (ArOb x k) (-9223372036854775808≤x∧x≤9223372036854775807) (k x):=⟨fun h r=> .fits h r⟩
instance {x:Int} {k:Int→Prop}:StpC (ArU x k) (0≤x∧x≤18446744073709551615) (k x):=⟨fun h r=> .fits h r⟩
instance {x:Int} {k:Int→Prop}:StpC (ArB x k) (0≤x∧x≤255) (k x):=⟨fun h r=> .fits h r⟩
instance {A B:Prop}:StpC (LitOb A B) True A:=⟨fun _ r=> .vec r⟩
instance {A B:Prop}:StpC (MakeOb A B) True A:=⟨fun _ r=> .vec r⟩
instance {A B:Prop}:StpC (AsgOb A B) True A:=⟨fun _ r=> .vec r⟩
instance {cs:List SV} {A:Prop} {B:Nat→List (List SV)→Prop}:StpC (AllocOb cs A B) True A:=⟨fun _ r=> .box r⟩
theorem aS {G b R:Prop} [i:StpC G b R] (r:R) (h:b:=by first|exact True.intro|omega|(simp only [ints_len]at*;omega)):G:=i.h h r
theorem aC {p A B:Prop} (t:p→A) (f:¬p→B):CondOb p A B:= .mk t f
theorem aD {n nm va vb S K} (h:va S (seqK (fun S'=>vb S' K) K)):CutOb n nm va vb S K:= .split h
theorem aH {n nm k S} (h:runG n nm [] S k):Gh n nm k S:= .mk [] h
theorem aW {E ops S K} (p:Plan) (h:runG E.npre E.nm [] S fun S=>runP E ops.toList p [] S K) (hc:chkAll ops p=true:=by decide+kernel):DrawOb E ops S K:= .mk [] p hc h
theorem aK {P:Program} {free:Nat→Bool} {f:Nat} {sargs:List SV} {S:SS} {k:SS→SV→Prop} (hs:List Nat) {args' args:List SV} {own0 o0:List Chunk} {r0:SV} (hf:Ctr P f args own0 (fun r o=>o=o0∧r=r0))
  (hk:forceO (giveBack hs (o0.map (renC (back hs S.own.length))) S.own++(o0.drop hs.length).map (renC (back hs S.own.length))) fun own=>forceV (ren (back hs S.own.length) r0) fun s=>S.withTm fun tm=>k ⟨tm,own⟩ s)
  (ha:toCL hs sargs=some args':=by exact rfl) (hi:ImpL args' args:=by exact ImpL.refl _) (ho:lend S.own hs=some own0:=by exact rfl) (hnd:(nodupB hs && allFree free hs)=true:=by exact rfl):CallOb P free f sargs S k:=
 .mk hs hf ha hi ho hnd fun _ _ ⟨h1,h2⟩=>by subst h1 h2;exact hk
theorem aM {P:Program} {free:Nat→Bool} {f:Nat} {sargs:List SV} {S:SS} {k:SS→SV→Prop} (hs:List Nat) {args:List SV} {own0:List Chunk} {post:SV→List Chunk→Prop} (hf:Ctr P f args own0 post)
  (ha:toCL hs sargs=some args) (ho:lend S.own hs=some own0)
  (hk:∀r own',post r own'→forceO (giveBack hs (own'.map (renC (back hs S.own.length))) S.own++(own'.drop hs.length).map (renC (back hs S.own.length))) fun own=>forceV (ren (back hs S.own.length) r) fun s=>S.withTm fun tm=>k ⟨tm,own⟩ s)
  (hnd:(nodupB hs && allFree free hs)=true:=by exact rfl):CallOb P free f sargs S k:=
 .mk hs hf ha (ImpL.refl _) ho hnd hk
theorem fI (n:Nat) {f:Nat} {fn:Func} {c:Code} {args:List SV} {own:List Chunk} {post:SV→List Chunk→Prop} (hf:(env n).P.funcs[f]? =some fn)
  (h:zipF 0 args fun tm=>vc (env n) c ⟨tm,own⟩ (retK (env n) fn.results.toList post)) (hm:(env n).P.follows .mixedOrders =true:=by exact rfl) (hn:(env n).npre =own.length:=by exact rfl) (hfr:(env n).free =fun _=>true:=by exact rfl)
  (hname:(fn.name== "runtime.NumGoroutine")=false:=by kernel_rfl) (hb:fn.body=some c:=by exact rfl) (hok:(okDst fn.ntmps (writes c) && Nat.ble args.length fn.ntmps)=true:=by kernel_rfl):Ctr (env n).P f args own post:=
 fn_intro (E:=env n) tys_ok hm hn hfr hf hname hb hok h
end
section
open Go.Sx Go.ChangeShapes Go.WideShapes Go.ChangeAt Go.RowKit
theorem own_knob:ownKnob Tryz.prog.godebug=none:=by kernel_rfl
abbrev Fit (n:Int):Prop:=IntKind.i64.min≤n∧n≤IntKind.i64.max
abbrev Fits' (l:List Int):Prop:=l.length≤maxLen∧∀n∈l,Fit n
theorem opens_ints:OpensArg Tryz.prog 22 (fun l:List Int=> .psl 1 (ints l)) Fits':=
 opensArg_one (D:= .slice 3) (by kernel_rfl) rfl (opens_slice (e:=3) (by kernel_rfl) (by kernel_rfl) (by decide+kernel) (opens_int (by kernel_rfl) (by kernel_rfl)))
theorem maxLen_le {n:Nat} (h:n≤maxLen):n≤9223372036854775807:=by unfold maxLen at h;omega
end
end Go.Proofs.YtbcjojomkibgeaaGreat
