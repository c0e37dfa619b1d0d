/-
  A text of the proofs of this seat: lemmas that the statements' proofs use; it states nothing of the program by itself beyond the contracts that its theorems bear. Conditions: those that stand in each theorem. Its short name: T1 OpP.
-/
import Derived.Test.YtifcdempdcolkabLib
import Derived.Test.YtifcdempdcolkabSxR
import Derived.Test.YtifcdempdcolkabPl
set_option linter.unusedVariables false
set_option linter.unusedSimpArgs false
section
namespace Go.Proofs.Ytifcdempdcolkab
open Go.Sx Go.Pk
set_option maxRecDepth 4000
set_option maxHeartbeats 2000000
abbrev pkw (x : Pk) : List SV := [i64 x.f, i64 x.t, i64 x.s]
abbrev pks (l : List Pk) : List (List SV) := l.map pkw
theorem pks_len (l : List Pk) : (pks l).length = l.length := by simp [pks]
theorem pks_get {l : List Pk} {j : Nat} (h : j < l.length) : (pks l)[j]? = some (pkw (l.getD j pk0)) := by
  simp [pks, List.getElem?_map, List.getElem?_eq_getElem h, List.getD_eq_getElem?_getD]
theorem aP_T1 {A B K : Prop} (k : K) (a : A := by (simp only [zA, zT, zD, zC, zN, ints_len, zR, Go.Cv.vals_len]; omega)) (b : B := by (simp only [zA, zT, zD, zC, zN, ints_len, zR, Go.Cv.vals_len]; omega)) : (A ∧ B) ∧ K := ⟨⟨a, b⟩, k⟩
theorem of_ok (p : List Pk) (flow : Int) : Ctr Try.prog 63 [.psl 3 (pks p), i64 flow] [] (fun r o => o = [] ∧ r = .fn 76 [.pptr [.psl 3 (pks p)], .pptr [i64 flow]]) := by
  refine fn_intro (E := env 0) tys_ok rfl rfl rfl Try.func63 (by kernel_rfl) rfl (by kernel_rfl) ?_
  (repeat' (conv => whnf); first | refine aC (fun _ => ?_) (fun _ => ?_) | refine aS ?_ | refine aG ?_ | refine aD ?_ | refine aP_T1 ?_ | refine aI ?_ | refine aJ ?_ | fail); all_goals try (conv => whnf)
  refine .mk [.fb 0, .fb 1] ?_
  (repeat' (conv => whnf); first | refine aC (fun _ => ?_) (fun _ => ?_) | refine aS ?_ | refine aG ?_ | refine aD ?_ | refine aH ?_ | refine aP_T1 ?_ | refine aI ?_ | refine aJ ?_ | fail); all_goals try (conv => whnf)
  exact ⟨rfl, rfl⟩
abbrev rnd (x : Nat × Pk) : List SV := [i64 x.1, .agg (pkw x.2)]
end Go.Proofs.Ytifcdempdcolkab
end
section
namespace Go.Proofs.Ytifcdempdcolkab
open Go.Sx Go.Pk
set_option maxRecDepth 100000
theorem Opens.imp {P : Program} {t : TypeId} {α β : Type} {S : α → List SV} {side : α → Prop} {S' : β → List SV} {side' : β → Prop} (h : Opens P t S side) (hi : ∀ a, side a → ∃ b, side' b ∧ S a = S' b) : Opens P t S' side' := by
  intro H enc W fuel cs x hx
  obtain ⟨h1, h2, ⟨a, ha, hr⟩, h4⟩ := h enc W fuel cs x hx
  obtain ⟨b, hb, e⟩ := hi a ha
  exact ⟨h1, h2, ⟨b, hb, e ▸ hr⟩, h4⟩
theorem opensI : Opens Try.prog 3 (fun n : Int => [i64 n]) Fit := opens_int (by kernel_rfl) (by kernel_rfl)
def packetFs : List Field := [⟨ "Flow", 3, 0, false, "", "", 0⟩, ⟨ "Time", 3, 1, false, "", "", 8⟩, ⟨ "Size", 3, 2, false, "", "", 16⟩]
theorem opensP : Opens Try.prog 54 pkw (fun _ => True) :=
  Opens.imp (opens_struct (P := Try.prog) (fs := packetFs) (by kernel_rfl) (by kernel_rfl)
    (opensF_cons (P := Try.prog) (S := fun n : Int => [i64 n]) rfl opensI (opensF_cons (P := Try.prog) (S := fun n : Int => [i64 n]) (by kernel_rfl) opensI (opensF_cons (P := Try.prog) (S := fun n : Int => [i64 n]) (by kernel_rfl) opensI opensF_nil))))
    (fun a _ => ⟨⟨a.1, a.2.1, a.2.2.1⟩, trivial, rfl⟩)
theorem opens_packets : OpensArg Try.prog 25 (fun l : List Pk => .psl 3 (pks l)) (fun l => l.length ≤ maxLen ∧ ∀ x ∈ l, True) :=
  opensArg_one (D := .slice 54) (by kernel_rfl) rfl (opens_slice (e := 54) (by kernel_rfl) (by kernel_rfl) (by decide +kernel) opensP)
end Go.Proofs.Ytifcdempdcolkab
end
