/-
  A text of the proofs of this seat: lemmas that the statements' proofs use; it states nothing of the program by itself beyond the contracts that its theorems bear. Conditions: those that stand in each theorem. Its short name: Gw.
-/
import Derived.Test.YtlnpbgjoccipaaaT1
import Derived.Shelf.RegionOpenPlain
import Derived.WalkKit
import Derived.Deep.LoopGhost
import Derived.Deep.RegionLaw
import Derived.Lib.Walk
import Derived.Sort.WalkB12
import Derived.Lib.SliceRun
import Derived.Lib.AppendZerosOnto
set_option linter.unusedVariables false
set_option linter.unusedSimpArgs false
namespace Go.Proofs.Ytlnpbgjoccipaaa
open Go.Sx Go.Pk Go.RowKit Go.Lib Go.Sort Go.Shelf
set_option maxHeartbeats 4000000
set_option maxRecDepth 1000000
theorem Grow_run (w : World) (n : Nat) (hn : 0 < n) (hn2 : n ≤ 100000) : ∃ (G : Nat) (rest : List Value), n ≤ G ∧ rest.length = G * 3 ∧ (∀ v ∈ rest, scalar v = true) ∧
    Calls Try.prog 85 #[.slice none 0 0, .int .i64 n] w fun e w' => e = .returned (.slice (some ⟨w.heap.size, 0, none⟩) 0 G) ∧ w' = w.drew.alloc (.cells rest.toArray 31) := by
  have mixed : Try.prog.follows .mixedOrders = true := rfl
  have t25 : Try.prog.underlying 25 = some (.slice 31) := by kernel_rfl
  have t3 : Try.prog.underlying 3 = some (.int .i64) := by kernel_rfl
  have hi : (Try.prog.info? 31).map (fun i => (i.size, i.bytes, i.zero)) = some (3, 24, some (Value.agg #[Value.int .i64 0, Value.int .i64 0, Value.int .i64 0])) := by kernel_rfl
  obtain ⟨i0, hi0, hz1, hzb, hz0⟩ : ∃ i0, Try.prog.info? 31 = some i0 ∧ i0.size = 3 ∧ i0.bytes = 24 ∧ i0.zero = some (Value.agg #[Value.int .i64 0, Value.int .i64 0, Value.int .i64 0]) := by
    cases hq : Try.prog.info? 31 with
    | none => rw [hq] at hi; cases hi
    | some i => rw [hq] at hi; simp only [Option.map_some, Option.some.injEq, Prod.mk.injEq] at hi; exact ⟨i, rfl, hi.1, hi.2.1, hi.2.2⟩
  clear hi
  obtain ⟨z, hz⟩ : ∃ z, z = Value.agg #[Value.int .i64 0, Value.int .i64 0, Value.int .i64 0] := ⟨_, rfl⟩
  rw [← hz] at hz0
  have hzc : z.cells.toList.all scalar = true ∧ z.cells.size = 3 := by rw [hz]; exact ⟨rfl, rfl⟩
  have hold : (Builtin.firstCells i0.size 0 (.slice none 0 0)).run Try.prog w.drew = .ok ([] : List Value).toArray w.drew := run_firstCells_none w.drew i0.size 0 0 0
  have hrz : ∀ ty, (Builtin.append_ #[25, 3] ty #[.slice none 0 0, .int .i64 n]).run Try.prog w =
      .ok (.slice (some ⟨w.heap.size, 0, none⟩) n (grownCap w n 0 31)) (w.drew.alloc (.cells (([] : List Value).toArray ++ Builtin.zeroCells z.cells n ++ Builtin.zeroCells z.cells (grownCap w n 0 31 - n)) 31)) := fun ty => by
    have h := Lib.run_append_grow_zeros w 25 3 ty 31 i0 z .i64 .i64 t25 t3 hi0 hz0 none 0 0 [] hold n hn (by omega) (by omega) (by omega)
      (by rw [hzb]; omega) (by exact growslice_fits (by omega) (by rw [hzb]; omega))
    rw [Nat.zero_add] at h
    exact h
  have hGn : n ≤ grownCap w n 0 31 := grownCap_ge w _ _ _
  have hG63 : grownCap w n 0 31 ≤ 9223372036854775807 := by
    have := grownCap_le_maxLen w n 0 31 (by unfold maxLen; omega)
    unfold maxLen at this
    omega
  generalize grownCap w n 0 31 = G at *
  refine ⟨G, (Builtin.zeroCells z.cells n).toList ++ (Builtin.zeroCells z.cells (G - n)).toList, hGn, ?_, ?_, ?_⟩
  · rw [List.length_append, zc_len, zc_len, hzc.2]; omega
  · intro v hv
    rcases List.mem_append.1 hv with h | h
    · exact zeroCells_sc hzc.1 _ v h
    · exact zeroCells_sc hzc.1 _ v h
  have e : (([] : List Value).toArray ++ Builtin.zeroCells z.cells n ++ Builtin.zeroCells z.cells (G - n)) = ((Builtin.zeroCells z.cells n).toList ++ (Builtin.zeroCells z.cells (G - n)).toList).toArray := by simp
  rw [e] at hrz
  generalize (Builtin.zeroCells z.cells n).toList ++ (Builtin.zeroCells z.cells (G - n)).toList = rest at *
  have h1 : ¬ ((n : Int) < 0) := by omega
  have h3 : wrap64 ((n : Int) - ((0 : Nat) - (0 : Nat) : Int)) = (n : Int) := by unfold wrap64; omega
  have h4 : (n : Int) > 0 := by omega
  clear hold hz hzc e
  go_enter Try.func85, Try.ntmps85
  go_wp2_with (at_builtin; refine Lib.wpList_append_run _ rfl _ _ _ _ rfl _ _ rfl rfl _ _ (hrz _) ?_)
  all_goals (go_ret; exact ⟨rfl, rfl⟩)
theorem Grow_zero (w : World) : Calls Try.prog 85 #[.slice none 0 0, .int .i64 0] w fun e w' => e = .returned (.slice none 0 0) ∧ w' = w := by
  have mixed : Try.prog.follows .mixedOrders = true := rfl
  have t25 : Try.prog.underlying 25 = some (.slice 31) := by kernel_rfl
  have t3 : Try.prog.underlying 3 = some (.int .i64) := by kernel_rfl
  go_enter Try.func85, Try.ntmps85
  go_wp2
  all_goals (go_ret; exact ⟨rfl, rfl⟩)
/- slices.Grow of nil: an empty slice of one's own -/
theorem Grow_ok (n : Nat) (hn : n ≤ 100000) : Ctr Try.prog 85 [.nil, i64 n] [] (fun r o => o = [.vec 3 (pks [])] ∧ r = .vec 0) := by
  refine ⟨⟨_, Try.func85, by kernel_rfl, by kernel_rfl⟩, fun w σ β vs hH hr => ?_⟩
  obtain rfl : β = [] := List.eq_nil_of_length_eq_zero hH.len
  obtain ⟨v0, vs, rfl, h0, hr⟩ := hr
  obtain ⟨v1, vs, rfl, h1, hr⟩ := hr
  have : vs = [] := hr
  subst this
  have h0 : v0 = .slice none 0 0 := h0
  have h1 : v1 = .int .i64 n := h1
  subst h0 h1
  have g : GG w σ [] ⟨0, fun _ => none, fun _ => true, [], fun _ => false⟩ σ [] ⟨[], []⟩ { tmps := #[], defers := [] } w :=
    ⟨fun t => by simp [tlook, rel], rfl, rfl, hH, Fr.refl w σ [], ⟨fun _ _ h => (by cases h), fun _ _ _ _ _ _ => rfl⟩⟩
  by_cases h : n = 0
  · subst h
    refine (Grow_zero w).mono ?_
    rintro e' w' ⟨rfl, rfl⟩
    have g1 := g.nilVec 3
    exact ⟨_, σ, [hb4 none 3 0 0], [.vec 3 []], .vec 0, rfl, g1.hp, g1.fr, ⟨hb4 none 3 0 0, rfl, rfl⟩, rfl, rfl⟩
  · obtain ⟨G, rest, q1, q2, q3, q4⟩ := Grow_run w n (by omega) hn
    refine q4.mono ?_
    rintro e' w' ⟨rfl, rfl⟩
    have g1 := (g.drew).newVec (esz := 3) (cap := G) (rows := []) (vss := []) (rest := rest) (by simp [relLL]) (fun r hr => by simp at hr) (Nat.zero_le _) (by simp [q2]) (fun u hu => q3 u (by simpa using hu)) 31
    exact ⟨_, σ, [hb4 (some w.heap.size) 3 0 G], [.vec 3 []], .vec 0, rfl, g1.hp, g1.fr, ⟨hb4 (some w.heap.size) 3 0 G, rfl, rfl⟩, rfl, rfl⟩
end Go.Proofs.Ytlnpbgjoccipaaa
