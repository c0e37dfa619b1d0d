/-
  A text of the proofs of this seat: lemmas that the statements' proofs use; it states nothing of the program by itself beyond the contracts that its theorems bear. Conditions: those that stand in each theorem. Its short name: Lib Op Sh.
-/
import Derived.Test.YtaomhdljcdadaaaGreatTy
import Derived.Test.YtaomhdljcdadaaaGreatSxC
import Derived.Test.YtaomhdljcdadaaaGreatRows
import Derived.WalkKit
import Derived.ProofKit
import Derived.Shelf.SlLaysF0
import Derived.Shelf.SlLaysC2
import Derived.Shelf.Lays
set_option linter.unusedVariables false
set_option linter.unusedSimpArgs false
section
namespace Go.Proofs.YtaomhdljcdadaaaGreat
open Go.Sx
theorem ints_get {l : List Int} {j : Nat} (h : j < l.length) : (ints l)[j]? = some [.num .i64 (l.getD j 0)] := by
  simp [ints, List.getElem?_map, List.getElem?_eq_getElem h]
theorem ints_len (l : List Int) : (ints l).length = l.length := by simp [ints]
theorem Ctr.imp {P f args own own'} {s : SV} (h : Ctr P f args own (fun r o => o = own' ∧ Imp r s)) : Ctr P f args own (fun r o => o = own' ∧ r = s) :=
  ⟨h.1, fun w σ β vs h1 h2 => (h.2 w σ β vs h1 h2).mono fun _ _ ⟨v, σ', β', own', _, a, b, c, d, e1, e2⟩ => ⟨v, σ', β', own', s, a, b, c, e2 _ _ _ d, e1, rfl⟩⟩
theorem Ctr.impE {P f args own} {α : Type} {Q : α → Prop} {s : α → SV} {ow : α → List Chunk} (h : Ctr P f args own (fun r o => ∃ x, Q x ∧ o = ow x ∧ Imp r (s x))) : Ctr P f args own (fun r o => ∃ x, Q x ∧ o = ow x ∧ r = s x) :=
  ⟨h.1, fun w σ β vs h1 h2 => (h.2 w σ β vs h1 h2).mono fun _ _ ⟨v, σ', β', own', _, a, b, c, d, x, e0, e1, e2⟩ => ⟨v, σ', β', own', s x, a, b, c, e2 _ _ _ d, x, e0, e1, rfl⟩⟩
theorem aG {P : Program} {t : Nat} {K : Prop} (hk : K) (h : (plainTy P 6 t && !(P.eqGuardType P.depth t)) = true := by decide +kernel) : AggOb P t K := .mk h hk
theorem aI {l : List Int} {j : Nat} {K : Nat → List SV → Prop} (hk : K j [.num .i64 (l.getD j 0)]) (h : j < l.length := by first | omega | (simp only [ints_len] at *; omega)) : ∃ (i : Nat) (row : List SV), (j : Int) = (i : Int) ∧ (ints l)[i]? = some row ∧ K i row := ⟨_, _, rfl, ints_get h, hk⟩
theorem aJ {l : List Int} {x : Int} {K : Nat → List SV → Prop} (hk : K x.toNat [.num .i64 (l.getD x.toNat 0)]) (h : 0 ≤ x := by first | omega | (simp only [ints_len] at *; omega)) (h2 : x.toNat < l.length := by first | omega | (simp only [ints_len] at *; omega)) : ∃ (i : Nat) (row : List SV), x = (i : Int) ∧ (ints l)[i]? = some row ∧ K i row := ⟨_, _, (Int.toNat_of_nonneg h).symm, ints_get h2, hk⟩
theorem aL {n : Nat} {hs : List Nat} {S S' : SS} (h1 : okHs n hs S' = true := by kernel_rfl)
    (h2 : LeO S.own (gets hs) hs S'.own := by repeat' (first | exact True.intro | refine And.intro ?_ ?_ | exact Imp.refl _ | exact Imp.any _ | exact Imp.num (by first | omega | simp only [ints_len]) | exact rfl | exact Imp.bl (by simp)))
    (h3 : LeT (gets hs) S S S'.tm := by repeat' (first | exact True.intro | refine And.intro ?_ ?_ | exact Imp.refl _ | exact Imp.any _ | exact Imp.num (by first | omega | simp only [ints_len]) | exact rfl | exact Imp.bl (by simp))) : Le n hs S S' := ⟨h1, h2, h3⟩
theorem zA {α : Type} {a b : List α} : (a ++ b).length = a.length + b.length := List.length_append
theorem zT {α : Type} {n : Nat} {a : List α} : (a.take n).length = min n a.length := List.length_take
theorem zD {α : Type} {n : Nat} {a : List α} : (a.drop n).length = a.length - n := List.length_drop
theorem zC {α : Type} {x : α} {a : List α} : (x :: a).length = a.length + 1 := List.length_cons
theorem zN {α : Type} : ([] : List α).length = 0 := rfl
theorem zR {α : Type} {n : Nat} {x : α} : (List.replicate n x).length = n := List.length_replicate
/-! shorter forms yet: one step of the walk by its kind -/
class StpC (G : Prop) (b R : outParam Prop) : Prop where
  h : b → R → G
instance {x : Int} {k : Int → Prop} : StpC (ArOb x k) (-9223372036854775808 ≤ x ∧ x ≤ 9223372036854775807) (k x) := ⟨fun h r => .fits h r⟩
instance {x : Int} {k : Int → Prop} : StpC (ArU x k) (0 ≤ x ∧ x ≤ 18446744073709551615) (k x) := ⟨fun h r => .fits h r⟩
instance {x : Int} {k : Int → Prop} : StpC (ArB x k) (0 ≤ x ∧ x ≤ 255) (k x) := ⟨fun h r => .fits h r⟩
instance {A B : Prop} : StpC (LitOb A B) True A := ⟨fun _ r => .vec r⟩
instance {A B : Prop} : StpC (MakeOb A B) True A := ⟨fun _ r => .vec r⟩
instance {A B : Prop} : StpC (AsgOb A B) True A := ⟨fun _ r => .vec r⟩
instance {cs : List SV} {A : Prop} {B : Nat → List (List SV) → Prop} : StpC (AllocOb cs A B) True A := ⟨fun _ r => .box r⟩
theorem aS {G b R : Prop} [i : StpC G b R] (r : R) (h : b := by first | exact True.intro | omega | (simp only [ints_len] at *; omega)) : G := i.h h r
theorem aC {p A B : Prop} (t : p → A) (f : ¬p → B) : CondOb p A B := .mk t f
theorem aD {n nm va vb S K} (h : va S (seqK (fun S' => vb S' K) K)) : CutOb n nm va vb S K := .split h
theorem aH {n nm k S} (h : runG n nm [] S k) : Gh n nm k S := .mk [] h
theorem aW {E ops S K} (p : Plan) (h : runG E.npre E.nm [] S fun S => runP E ops.toList p [] S K) (hc : chkAll ops p = true := by decide +kernel) : DrawOb E ops S K := .mk [] p hc h
theorem aK {P : Program} {free : Nat → Bool} {f : Nat} {sargs : List SV} {S : SS} {k : SS → SV → Prop} (hs : List Nat) {args' args : List SV} {own0 o0 : List Chunk} {r0 : SV} (hf : Ctr P f args own0 (fun r o => o = o0 ∧ r = r0))
    (hk : forceO (giveBack hs (o0.map (renC (back hs S.own.length))) S.own ++ (o0.drop hs.length).map (renC (back hs S.own.length))) fun own => forceV (ren (back hs S.own.length) r0) fun s => S.withTm fun tm => k ⟨tm, own⟩ s)
    (ha : toCL hs sargs = some args' := by exact rfl) (hi : ImpL args' args := by exact ImpL.refl _) (ho : lend S.own hs = some own0 := by exact rfl) (hnd : (nodupB hs && allFree free hs) = true := by exact rfl) : CallOb P free f sargs S k :=
  .mk hs hf ha hi ho hnd fun _ _ ⟨h1, h2⟩ => by subst h1 h2; exact hk
end Go.Proofs.YtaomhdljcdadaaaGreat
end
section
namespace Go.Proofs.YtaomhdljcdadaaaGreat
open Go.Sx Go.ChangeShapes Go.WideShapes Go.ChangeAt Go.RowKit
set_option maxRecDepth 100000
theorem own_knob : ownKnob Tryz.prog.godebug = none := by kernel_rfl
abbrev Fit (n : Int) : Prop := IntKind.i64.min ≤ n ∧ n ≤ IntKind.i64.max
abbrev Fits' (l : List Int) : Prop := l.length ≤ maxLen ∧ ∀ n ∈ l, Fit n
theorem opens_ints : OpensArg Tryz.prog 22 (fun l : List Int => .psl 1 (ints l)) Fits' :=
  opensArg_one (D := .slice 3) (by kernel_rfl) rfl (opens_slice (e := 3) (by kernel_rfl) (by kernel_rfl) (by decide +kernel) (opens_int (by kernel_rfl) (by kernel_rfl)))
theorem maxLen_le {n : Nat} (h : n ≤ maxLen) : n ≤ 9223372036854775807 := by unfold maxLen at h; omega
end Go.Proofs.YtaomhdljcdadaaaGreat
end
section
namespace Go.Proofs.YtaomhdljcdadaaaGreat
open Go.Shelf
/-! where the library's functions lie in this program (written by the kit's lay-plain) -/
def sortW_ren : Go.Shelf.Ren := ⟨fun | 6 => 92 | 15 => 121 | 14 => 120 | 28 => 160 | 29 => 161 | 20 => 152 | 21 => 153 | 22 => 154 | 23 => 155 | 24 => 156 | 25 => 157 | 26 => 158 | 27 => 159 | 46 => 187 | 47 => 188 | 48 => 189 | 49 => 190 | 50 => 191 | 57 => 200 | n => n, fun | 22 => 136 | 24 => 138 | 25 => 141 | 3 => 3 | 39 => 158 | 0 => 0 | 53 => 186 | 55 => 189 | 4 => 4 | 46 => 195 | 45 => 194 | 50 => 48 | 5 => 5 | 9 => 9 | 66 => 233 | 70 => 237 | 76 => 244 | 77 => 245 | n => n, fun | n => n⟩
theorem sortW : Go.Proofs.SlLaysF0.n6 Tryz.prog sortW_ren := {
  mixed := by kernel_rfl
  f6 := ⟨Tryz.f92.name, by decide, Tryz.func92.trans (congrArg some (by kernel_rfl))⟩
  f14 := ⟨Tryz.f120.name, by decide, Tryz.func120.trans (congrArg some (by kernel_rfl))⟩
  f15 := Tryz.func121.trans (congrArg some (by kernel_rfl))
  f20 := ⟨Tryz.f152.name, by decide, Tryz.func152.trans (congrArg some (by kernel_rfl))⟩
  f21 := ⟨Tryz.f153.name, by decide, Tryz.func153.trans (congrArg some (by kernel_rfl))⟩
  f22 := ⟨Tryz.f154.name, by decide, Tryz.func154.trans (congrArg some (by kernel_rfl))⟩
  f23 := ⟨Tryz.f155.name, by decide, Tryz.func155.trans (congrArg some (by kernel_rfl))⟩
  f24 := ⟨Tryz.f156.name, by decide, Tryz.func156.trans (congrArg some (by kernel_rfl))⟩
  f25 := ⟨Tryz.f157.name, by decide, Tryz.func157.trans (congrArg some (by kernel_rfl))⟩
  f26 := ⟨Tryz.f158.name, by decide, Tryz.func158.trans (congrArg some (by kernel_rfl))⟩
  f27 := ⟨Tryz.f159.name, by decide, Tryz.func159.trans (congrArg some (by kernel_rfl))⟩
  f28 := Tryz.func160.trans (congrArg some (by kernel_rfl))
  f29 := Tryz.func161.trans (congrArg some (by kernel_rfl))
  f46 := ⟨Tryz.f187.name, by decide, Tryz.func187.trans (congrArg some (by kernel_rfl))⟩
  f47 := Tryz.func188.trans (congrArg some (by kernel_rfl))
  f48 := Tryz.func189.trans (congrArg some (by kernel_rfl))
  f49 := ⟨Tryz.f190.name, by decide, Tryz.func190.trans (congrArg some (by kernel_rfl))⟩
  f50 := ⟨Tryz.f191.name, by decide, Tryz.func191.trans (congrArg some (by kernel_rfl))⟩
  f57 := ⟨Tryz.f200.name, by decide, Tryz.func200.trans (congrArg some (by kernel_rfl))⟩
  t0 := Tryz.underlying0
  a0 := Tryz.isAgg0
  z0 := Tryz.sizeOf0
  v0 := Tryz.zeroValue0
  t3 := Tryz.underlying3
  a3 := Tryz.isAgg3
  z3 := Tryz.sizeOf3
  v3 := Tryz.zeroValue3
  t4 := Tryz.underlying4
  a4 := Tryz.isAgg4
  z4 := Tryz.sizeOf4
  v4 := Tryz.zeroValue4
  t5 := Tryz.underlying5
  a5 := Tryz.isAgg5
  z5 := Tryz.sizeOf5
  v5 := Tryz.zeroValue5
  t9 := Tryz.underlying9
  a9 := Tryz.isAgg9
  z9 := Tryz.sizeOf9
  v9 := Tryz.zeroValue9
  t22 := Tryz.underlying136
  a22 := Tryz.isAgg136
  z22 := Tryz.sizeOf136
  v22 := Tryz.zeroValue136
  t25 := Tryz.underlying141
  a25 := Tryz.isAgg141
  z25 := Tryz.sizeOf141
  v25 := Tryz.zeroValue141
  t39 := Tryz.underlying158
  a39 := Tryz.isAgg158
  z39 := Tryz.sizeOf158
  v39 := Tryz.zeroValue158
  t45 := Tryz.underlying194
  a45 := Tryz.isAgg194
  z45 := Tryz.sizeOf194
  v45 := Tryz.zeroValue194
  t46 := Tryz.underlying195
  a46 := Tryz.isAgg195
  z46 := Tryz.sizeOf195
  v46 := Tryz.zeroValue195
  t50 := Tryz.underlying48
  a50 := Tryz.isAgg48
  z50 := Tryz.sizeOf48
  v50 := Tryz.zeroValue48
  t53 := Tryz.underlying186
  a53 := Tryz.isAgg186
  z53 := Tryz.sizeOf186
  v53 := Tryz.zeroValue186
  t55 := Tryz.underlying189
  a55 := Tryz.isAgg189
  z55 := Tryz.sizeOf189
  v55 := Tryz.zeroValue189
  t66 := Tryz.underlying233
  a66 := Tryz.isAgg233
  z66 := Tryz.sizeOf233
  v66 := Tryz.zeroValue233
  t70 := Tryz.underlying237
  a70 := Tryz.isAgg237
  z70 := Tryz.sizeOf237
  v70 := Tryz.zeroValue237
  t76 := Tryz.underlying244
  a76 := Tryz.isAgg244
  z76 := Tryz.sizeOf244
  v76 := Tryz.zeroValue244
  t77 := Tryz.underlying245
  a77 := Tryz.isAgg245
  z77 := Tryz.sizeOf245
  v77 := Tryz.zeroValue245 }
def bitsMul_ren : Go.Shelf.Ren := ⟨fun | 212 => 115 | 263 => 149 | 264 => 150 | n => n, fun | 46 => 158 | 51 => 186 | 146 => 187 | 53 => 189 | 148 => 190 | n => n, fun | n => n⟩
theorem bitsMul : Go.Proofs.Lays.n212 Tryz.prog bitsMul_ren := {
  mixed := by kernel_rfl
  f212 := Tryz.func115.trans (congrArg some (by kernel_rfl))
  f263 := Tryz.func149.trans (congrArg some (by kernel_rfl))
  f264 := Tryz.func150.trans (congrArg some (by kernel_rfl))
  t46 := Tryz.underlying158
  a46 := Tryz.isAgg158
  z46 := Tryz.sizeOf158
  v46 := Tryz.zeroValue158
  t51 := Tryz.underlying186
  a51 := Tryz.isAgg186
  z51 := Tryz.sizeOf186
  v51 := Tryz.zeroValue186
  t53 := Tryz.underlying189
  a53 := Tryz.isAgg189
  z53 := Tryz.sizeOf189
  v53 := Tryz.zeroValue189
  t146 := Tryz.underlying187
  a146 := Tryz.isAgg187
  z146 := Tryz.sizeOf187
  v146 := Tryz.zeroValue187
  t148 := Tryz.underlying190
  a148 := Tryz.isAgg190
  z148 := Tryz.sizeOf190
  v148 := Tryz.zeroValue190 }
end Go.Proofs.YtaomhdljcdadaaaGreat
end
