/-
  A text of the proofs of this seat: lemmas that the statements' proofs use; it states nothing of the program by itself beyond the contracts that its theorems bear. Conditions: those that stand in each theorem. Its short name: De.
-/
import Derived.Test.YtabbnnfobjifiaaC3
import Derived.Test.YtabbnnfobjifiaaT1
import Derived.Shelf.RegionOpenPlain
import Derived.WalkKit
import Derived.Deep.LoopGhost
import Derived.Deep.RegionLaw
import Derived.Lib.Walk
import Derived.Sort.WalkB12
import Derived.Lib.SliceRun
set_option linter.unusedVariables false
set_option linter.unusedSimpArgs false
namespace Go.Proofs.Ytabbnnfobjifiaa
open Go.Sx Go.Pk Go.RowKit Go.Lib Go.Sort Go.Shelf
set_option maxHeartbeats 4000000
set_option maxRecDepth 1000000
theorem Delete_run (w : World) (b i j n cap : Nat) (hj : j = i + 1) (T : TypeId) (A R Z rest : List Value) (hw : w.heap[b]? = some (.cells (A ++ R ++ Z ++ rest).toArray T (0, 0))) (hA : A.length = i * 3) (hR : R.length = 3) (hZ : Z.length = (n - j) * 3) (hZs : ∀ v ∈ Z, v.oneCell' = true) (hin : i < n) (hn : n ≤ cap) (hn2 : n ≤ 1000000) :
    Calls Try.prog 49 #[.slice (some ⟨b, 0, none⟩) n cap, .int .i64 i, .int .i64 j] w fun e w' => e = .returned (.slice (some ⟨b, 0, none⟩) (n - 1) cap) ∧
      w'.heap[b]? = some (.cells (A ++ Z ++ ([Value.int .i64 0, Value.int .i64 0, Value.int .i64 0] : List Value) ++ rest).toArray T (0, 0)) ∧ (∀ k, k ≠ b → w'.heap[k]? = w.heap[k]?) ∧ w'.heap.size = w.heap.size ∧ w'.os = w.os ∧ w'.tape = w.tape ∧ w'.output = w.output := by
  have mixed : Try.prog.follows .mixedOrders = true := rfl
  have t25 : Try.prog.underlying 25 = some (.slice 38) := by kernel_rfl
  have hi : (Try.prog.info? 38).map (fun i => (i.size, i.zero)) = some (3, some (Value.agg #[Value.int .i64 0, Value.int .i64 0, Value.int .i64 0])) := by kernel_rfl
  obtain ⟨i0, hi0, hz1, hz0⟩ : ∃ i0, Try.prog.info? 38 = some i0 ∧ i0.size = 3 ∧ i0.zero = some (Value.agg #[Value.int .i64 0, Value.int .i64 0, Value.int .i64 0]) := by
    cases hq : Try.prog.info? 38 with
    | none => rw [hq] at hi; cases hi
    | some i => rw [hq] at hi; simp only [Option.map_some, Option.some.injEq, Prod.mk.injEq] at hi; exact ⟨i, rfl, hi.1, hi.2⟩
  clear hi
  obtain ⟨ad, hA2, hsrc⟩ : ∃ ad : Addr, (if cap = j then some (⟨b, 0, none⟩ : Addr) else some ⟨b, j * 3, none⟩) = some ad ∧ Hid (∀ t u, Z[t]? = some u → w.drew.cell? (ad.add t) = some u) := by
    by_cases h : cap = j
    · refine ⟨⟨b, 0, none⟩, by simp [h], fun t u hu => ?_⟩
      have h0 : Z.length = 0 := by rw [hZ]; omega
      rw [List.length_eq_zero_iff.1 h0] at hu
      simp at hu
    · refine ⟨⟨b, j * 3, none⟩, by simp [h], fun t u hu => ?_⟩
      have ht := (List.getElem?_eq_some_iff.1 hu).1
      rw [Addr.add_lit]
      show w.cell? _ = _
      rw [(cell_at hw _).1]
      rw [List.append_assoc (A ++ R), List.getElem?_append_right (by rw [List.length_append]; omega), List.getElem?_append_left (by rw [List.length_append]; omega), ← hu]
      congr 1
      rw [List.length_append]; omega
  have s1 : Hid (Z.length = (n - j) * 3) := hZ
  have s2 : Hid (∀ u ∈ Z, u.oneCell' = true) := hZs
  have hA0 : A.length = 0 + i * 3 := by omega
  obtain ⟨M, hM⟩ : ∃ M, M = (R ++ Z).take Z.length := ⟨_, rfl⟩
  obtain ⟨Y, hY⟩ : ∃ Y, Y = (R ++ Z).drop Z.length := ⟨_, rfl⟩
  have hMY : R ++ Z = M ++ Y := by rw [hM, hY, List.take_append_drop]
  have hMl : Z.length = M.length := by rw [hM, List.length_take, List.length_append]; omega
  have hYl : Y.length = 3 := by rw [hY, List.length_drop, List.length_append]; omega
  have hw1 : w.drew.heap[b]? = some (.cells (A ++ M ++ (Y ++ rest)).toArray T (0, 0)) := by
    show w.heap[b]? = _
    rw [hw, List.append_assoc A R Z, hMY]; simp only [List.append_assoc]
  have s3 : Hid (∀ t, t < Z.length → (w.drew.cell? ⟨b, 0 + i * 3 + t, none⟩).isSome = true ∧ w.drew.frozen? ⟨b, 0 + i * 3 + t, none⟩ = false) := by
    intro t ht
    obtain ⟨e1, e2⟩ := cell_at hw1 (0 + i * 3 + t)
    refine ⟨?_, e2⟩
    rw [e1, List.getElem?_eq_getElem (by simp only [List.length_append]; omega)]; rfl
  obtain ⟨W1, hW1⟩ : ∃ W1, W1 = w.drew.setCells b (0 + i * 3) Z := ⟨_, rfl⟩
  have g1 := setCells_get (b := b) (T := T) Z w.drew A M (Y ++ rest) hw1 hMl
  rw [hA0, ← hW1] at g1
  obtain ⟨g1, g2, g3, g4, g5, g6⟩ := g1
  have hw2 : W1.heap[b]? = some (.cells ((A ++ Z) ++ Y ++ rest).toArray T (0, 0)) := by rw [g1]; simp only [List.append_assoc]
  have hAZ : (A ++ Z).length = (i + (n - j)) * 3 := by rw [List.length_append]; omega
  have k1 := setCells_get (b := b) (T := T) [Value.int .i64 0, Value.int .i64 0, Value.int .i64 0] W1 (A ++ Z) Y rest hw2 (by rw [hYl]; rfl)
  rw [hAZ] at k1
  obtain ⟨k1, k2, k3, k4, k5, k6⟩ := k1
  obtain ⟨W2, hW2⟩ : ∃ W2, W2 = W1.setCells b ((i + (n - j)) * 3) [Value.int .i64 0, Value.int .i64 0, Value.int .i64 0] := ⟨_, rfl⟩
  have hcl : ∀ ty, (Builtin.clear_ #[25] ty #[.slice (some ⟨b, (i + (n - j)) * 3, none⟩) (n - (i + (n - j))) (cap - (i + (n - j)))]).run Try.prog W1 = .ok (.tuple #[]) W2 := fun ty => by
    rw [show n - (i + (n - j)) = 1 by omega, hW2]
    refine clear_one W1 25 38 ty (.agg #[Value.int .i64 0, Value.int .i64 0, Value.int .i64 0]) t25 (fun w => ?_) [Value.int .i64 0, Value.int .i64 0, Value.int .i64 0] ?_ ?_ b _ _ ?_ ?_
    · simp [zeroValue, typeInfo, hi0, hz0]
    · simp [Builtin.zeroCells, Value.cells, Array.range, List.range, List.range.loop]
    · intro v hv
      simp only [List.mem_cons, List.not_mem_nil, or_false] at hv
      rcases hv with rfl | rfl | rfl <;> rfl
    · intro k hk
      rw [(cell_at hw2 _).1, List.getElem?_eq_getElem (by simp only [List.length_append] at hAZ ⊢; simp only [List.length_cons, List.length_nil] at hk; omega)]; rfl
    · intro k hk
      exact (cell_at hw2 _).2
  rw [← hW2] at k1 k2 k3 k4 k5 k6
  have fin : Hid (W2.heap[b]? = some (.cells (A ++ Z ++ ([Value.int .i64 0, Value.int .i64 0, Value.int .i64 0] : List Value) ++ rest).toArray T (0, 0)) ∧ (∀ k, k ≠ b → W2.heap[k]? = w.heap[k]?) ∧ W2.heap.size = w.heap.size ∧ W2.os = w.os ∧ W2.tape = w.tape ∧ W2.output = w.output) :=
    ⟨k1, fun k hk => (k2 k hk).trans (g2 k hk), k3.trans g3, k4.trans g4, k5.trans g5, k6.trans g6⟩
  have hW : Hid (W1 = w.drew.setCells b (0 + i * 3) Z) := hW1
  have hic : i ≤ cap := by omega
  have hij : i < j := by omega
  have hjn : j ≤ n := by omega
  have hne : (i : Int) ≠ j := by omega
  have hlen : Hid (n - 1 = i + (n - j)) := by show n - 1 = _; omega
  have hjc : j ≤ cap := by omega
  clear k1 k2 k3 k4 k5 k6 g1 g2 g3 g4 g5 g6 hw hw1 hw2 hMY hM hY hAZ hA0 hMl hYl hW1 hW2 hA hR hZs hj hZ
  go_enter Try.func49, Try.ntmps49
  go_wp2_with fail
  go_region_law_o (refine step_append_room rfl (.tmp 22) (.tmp 25) 25 rfl 38 i0 3 t25 hi0 hz1 b 0 i cap (by simp [Act.eval, Act.put]) ad (n - j) (cap - j) Z (by simp [Act.eval, Act.put]) s1.out hsrc.out s2.out (by omega) s3.out ?_; rw [← hW.out])
  go_wp2
  go_ret
  rw [hlen.out]
  exact ⟨rfl, fin.out⟩
/- slices.Delete of one packet: the slice keeps its block, and is one packet shorter -/
theorem Delete_ok (l : List Pk) (i j : Nat) (hj : j = i + 1) (hi : i < l.length) (hl : l.length ≤ 1000000) : Ctr Try.prog 49 [.vec 0, i64 i, i64 j] [.vec 3 (pks l)] (fun r o => o = [.dead, .vec 3 (pks (l.eraseIdx i))] ∧ r = .vec 1) := by
  refine ⟨⟨_, Try.func49, by kernel_rfl, by kernel_rfl⟩, fun w σ β vs hH hr => ?_⟩
  obtain ⟨x, rfl⟩ : ∃ x, β = [x] := List.length_eq_one_iff.1 hH.len
  obtain ⟨q1, q2, q3, q4⟩ := hH.ok 0 _ x rfl rfl
  have hpl := pks_len l
  rcases q4 with ⟨_, h, _⟩ | ⟨b, vss, rest, hb, hσ, hO, hrr, hcap, hrest⟩
  · rw [h] at hpl; simp at hpl; omega
  obtain ⟨hsc, T, hw⟩ := hO
  have hvl := relLL_length hrr
  have hv3 := relLL_rows hrr q3
  obtain ⟨v0, vs, rfl, h0, hr⟩ := hr
  obtain ⟨v1, vs, rfl, h1, hr⟩ := hr
  obtain ⟨v2, vs, rfl, h2, hr⟩ := hr
  have : vs = [] := hr
  subst this
  obtain ⟨y, hy, rfl⟩ := h0
  have : x = y := by simpa using hy
  subst this
  have h1 : v1 = .int .i64 i := h1
  have h2 : v2 = .int .i64 j := h2
  subst h1 h2
  have hiv : i < vss.length := by omega
  have e : vss = vss.take i ++ vss[i] :: vss.drop (i + 1) := by rw [← List.drop_eq_getElem_cons hiv, List.take_append_drop]
  have fl : ∀ m : List (List Value), (∀ r ∈ m, r.length = 3) → m.flatten.length = m.length * 3 := fun m hm => by
    induction m with
    | nil => rfl
    | cons r m ih =>
      rw [List.flatten_cons, List.length_append, ih fun r hr => hm r (List.mem_cons_of_mem _ hr), hm r (List.mem_cons_self ..), List.length_cons]; omega
  have hw' : w.heap[b]? = some (.cells ((vss.take i).flatten ++ vss[i] ++ (vss.drop (i + 1)).flatten ++ rest).toArray T (0, 0)) := by
    rw [hw]; congr 3
    rw [(flat_split hv3 (List.getElem?_eq_getElem hiv)).1]
  have hxs : x.slice = .slice (some ⟨b, 0, none⟩) l.length x.cap := by simp [HB.slice, adr, hb, q2, hpl]
  have hA : (vss.take i).flatten.length = i * 3 := by rw [fl _ fun r hr => hv3 r (List.mem_of_mem_take hr), List.length_take]; omega
  have hZ : (vss.drop (i + 1)).flatten.length = (l.length - j) * 3 := by rw [fl _ fun r hr => hv3 r (List.mem_of_mem_drop hr), List.length_drop, hvl, hpl, hj]
  have hR : vss[i].length = 3 := hv3 _ (List.getElem_mem hiv)
  have hsub : ∀ v ∈ (vss.drop (i + 1)).flatten, v ∈ vss.flatten := fun v hv => by
    rw [List.mem_flatten] at hv ⊢
    obtain ⟨r, h1, h2⟩ := hv
    exact ⟨r, List.mem_of_mem_drop h1, h2⟩
  have hsubt : ∀ v ∈ (vss.take i).flatten, v ∈ vss.flatten := fun v hv => by
    rw [List.mem_flatten] at hv ⊢
    obtain ⟨r, h1, h2⟩ := hv
    exact ⟨r, List.mem_of_mem_take h1, h2⟩
  have hrun := Delete_run w b i j l.length x.cap hj T _ _ _ rest hw' hA hR hZ (fun v hv => hsc v (List.mem_append.2 (.inl (hsub v hv)))) hi (by omega) hl
  rw [hxs]
  refine hrun.mono ?_
  rintro e' w' ⟨rfl, k1, k2, k3, k4, k5, k6⟩
  have hbx : b ∈ x.blks := by simp [HB.blks, hb]
  have hbl := hH.lt 0 x b rfl hbx
  refine ⟨_, σ, [x, hb4 (some b) 3 (l.length - 1) x.cap], _, _, rfl, ⟨?_, rfl, ?_, ?_, ?_, ?_⟩, ⟨k4, k5, k6, by omega, ?_, PH.le.refl _, fun _ _ h _ => .inl h, ?_, ?_⟩, ?_, rfl, rfl⟩
  · intro b' cs hb'
    obtain ⟨T', fz, hq⟩ := hH.ph b' cs hb'
    refine ⟨T', fz, ?_⟩
    rw [k2 b' (fun h => by rw [h, hσ] at hb'; cases hb')]; exact hq
  · rintro (_ | _ | h) c y hc hy
    · have : c = .dead := by simpa using hc.symm
      subst this; trivial
    · have h1 : c = .vec 3 (pks (l.eraseIdx i)) := by simpa using hc.symm
      have h2 : y = hb4 (some b) 3 (l.length - 1) x.cap := by simpa using hy.symm
      subst h1 h2
      have hel : (l.eraseIdx i).length = l.length - 1 := by rw [List.length_eraseIdx]; simp [hi]
      have hpe : pks (l.eraseIdx i) = (pks l).take i ++ (pks l).drop (i + 1) := by simp only [pks, List.eraseIdx_eq_take_drop_succ, List.map_append, List.map_take, List.map_drop]
      refine ⟨rfl, by rw [pks_len, hel], fun r hr => ?_, .inr ⟨b, vss.take i ++ vss.drop (i + 1), [Value.int .i64 0, Value.int .i64 0, Value.int .i64 0] ++ rest, rfl, hσ, ⟨?_, T, ?_⟩, ?_, ?_, ?_⟩⟩
      · rw [hpe] at hr
        rcases List.mem_append.1 hr with h | h
        · exact q3 r (List.mem_of_mem_take h)
        · exact q3 r (List.mem_of_mem_drop h)
      · intro v hv
        simp only [List.flatten_append, List.mem_append] at hv
        rcases hv with (hv | hv) | hv | hv
        · exact hsc v (List.mem_append.2 (.inl (hsubt v hv)))
        · exact hsc v (List.mem_append.2 (.inl (hsub v hv)))
        · simp only [List.mem_cons, List.not_mem_nil, or_false] at hv
          rcases hv with rfl | rfl | rfl <;> rfl
        · exact hsc v (List.mem_append.2 (.inr hv))
      · rw [k1]; simp
      · rw [hpe]; exact relLL_append (relLL_take _ hrr) (relLL_drop _ hrr)
      · show (pks (l.eraseIdx i)).length ≤ x.cap
        rw [pks_len, hel]; omega
      · show _ = x.cap * 3
        rw [← hrest]
        have := fl vss hv3
        simp only [List.flatten_append, List.length_append, List.length_cons, List.length_nil]
        omega
    · simp at hc
  · rintro (_ | _ | h) y b' hy hb'
    · have : x = y := by simpa using hy
      subst this
      rw [k3]; exact hH.lt 0 x b' rfl hb'
    · have h2 : y = hb4 (some b) 3 (l.length - 1) x.cap := by simpa using hy.symm
      subst h2
      have : b' = b := by simpa [HB.blks] using hb'
      subst this; rw [k3]; exact hbl
    · simp at hy
  · rintro (_ | _ | h) (_ | _ | h') c c' y y' b' hc hc' hl1 hl2 hy hy' hb1 hb2
    · rfl
    · have : c = .dead := by simpa using hc.symm
      subst this; cases hl1
    · simp at hc'
    · have : c' = .dead := by simpa using hc'.symm
      subst this; cases hl2
    · rfl
    · simp at hc'
    · simp at hc
    · simp at hc
    · simp at hc
  · rintro (_ | _ | h) c y b' hc hl1 hy hb'
    · have : c = .dead := by simpa using hc.symm
      subst this; cases hl1
    · have h2 : y = hb4 (some b) 3 (l.length - 1) x.cap := by simpa using hy.symm
      subst h2
      have : b' = b := by simpa [HB.blks] using hb'
      subst this; exact hσ
    · simp at hc
  · intro b' hb' hn
    refine k2 b' fun h => hn ?_
    subst h
    exact ⟨0, x, rfl, hbx⟩
  · intro h y hy
    rcases h with _ | h
    · simpa using hy
    · simp at hy
  · rintro (_ | _ | h) y b' hy hb'
    · have : x = y := by simpa using hy
      subst this
      exact .inr ⟨0, x, rfl, hb'⟩
    · have h2 : y = hb4 (some b) 3 (l.length - 1) x.cap := by simpa using hy.symm
      subst h2
      have : b' = b := by simpa [HB.blks] using hb'
      subst this; exact .inr ⟨0, x, rfl, hbx⟩
    · simp at hy
  · exact ⟨hb4 (some b) 3 (l.length - 1) x.cap, rfl, rfl⟩
end Go.Proofs.Ytabbnnfobjifiaa
