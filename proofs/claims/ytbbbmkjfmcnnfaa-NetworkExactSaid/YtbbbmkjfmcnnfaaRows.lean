/-
  No cell of these rows narrows 'for every input' (looked for: loops, veiled, ifaces, maps, wideKeys, modest, calm, conditions, laid).
  DERIVED. THE GIVEN ROWS OF THIS SEAT. 5 by the template 'for every input the law returns true; each argument reads behind the call as it read before'; 0 by the template 'total and deterministic' (their statements: YtbbbmkjfmcnnfaaTotals.lean).
  GIVEN WITH THE SEED: the statements are not yours to turn. If you find one false, say at which input.
  Laid BY PROGRAM, IN A SANDBOX (cutbox-rows.mjs): the forced cells as the released guide's own fill.sh prints them over the translation e1c17e431814c85f… (all of the seat's roots in one cut). By AI agents, Wed Nov 11 2026. No macro, syntax, notation, axiom, sorry.
-/
import Derived.Test.YtbbbmkjfmcnnfaaChecked
import GoSem.Claim
import GoSem.ClaimJoined
import GoSem.ClaimMapViews
import Derived.JoinedTies
import Derived.KernelRfl
namespace Go.Proofs.Ytbbbmkjfmcnnfaa
/- THE CELL 'sum', in the pinned program and in every row, IS THE sha256 OF THE DUMP (.gsa) THAT YtbbbmkjfmcnnfaaProg.lean LOADS. Nothing in Lean hashes anything: it is a label: what it is worth is what the hold of that sum in a sandbox is worth. -/
noncomputable def Try.pinned : Pinned := { name := "ytbbbmkjfmcnnfaa", sum := "e1c17e431814c85fb58bec08869a27f59a262bf8c3ed0359dbdfe6300b58e8dc", checked := Try.checked }
namespace Rows
def none {H : Type} : Left H := { results := [], args := [] }

/-- 'netcalculuslaw23.NetworkExact': WHATEVER THE INPUT: true; the input reads as it did. -/
def networkExactSpec : ChangeSpec := { name := "networkExact", fn := fun _ => fun
  | [d1, d2, d3, d4, d5, d6, d7] => { results := [.lit (.bool true)], args := [d1, d2, d3, d4, d5, d6, d7] }
  | _ => none }
def networkExactRow : OpenClaim := { program := "ytbbbmkjfmcnnfaa", sum := "e1c17e431814c85fb58bec08869a27f59a262bf8c3ed0359dbdfe6300b58e8dc", func := "netcalculus/netcalculuslaw23.NetworkExact", spec := "networkExact", unfollowed := true, recurses := true, apart := false }
def NetworkExactSaid : Prop := networkExactRow.holds Try.pinned (OpenSpec.ofChange networkExactSpec)

/-- ITS FALSE NEIGHBOUR: 'it returns false'. Refute it at one input. -/
def networkExactWrong : ChangeSpec := { name := "networkExact", fn := fun _ => fun
  | [d1, d2, d3, d4, d5, d6, d7] => { results := [.lit (.bool false)], args := [d1, d2, d3, d4, d5, d6, d7] }
  | _ => none }
def NetworkExactWrongFalsely : Prop := networkExactRow.holds Try.pinned (OpenSpec.ofChange networkExactWrong)

/-- 'netcalculuslaw23.NetworkDivides': WHATEVER THE INPUT: true; the input reads as it did. -/
def networkDividesSpec : ChangeSpec := { name := "networkDivides", fn := fun _ => fun
  | [d] => { results := [.lit (.bool true)], args := [d] }
  | _ => none }
def networkDividesRow : OpenClaim := { program := "ytbbbmkjfmcnnfaa", sum := "e1c17e431814c85fb58bec08869a27f59a262bf8c3ed0359dbdfe6300b58e8dc", func := "netcalculus/netcalculuslaw23.NetworkDivides", spec := "networkDivides", unfollowed := true, recurses := true, apart := false }
def NetworkDividesSaid : Prop := networkDividesRow.holds Try.pinned (OpenSpec.ofChange networkDividesSpec)

/-- ITS FALSE NEIGHBOUR: 'it returns false'. Refute it at one input. -/
def networkDividesWrong : ChangeSpec := { name := "networkDivides", fn := fun _ => fun
  | [d] => { results := [.lit (.bool false)], args := [d] }
  | _ => none }
def NetworkDividesWrongFalsely : Prop := networkDividesRow.holds Try.pinned (OpenSpec.ofChange networkDividesWrong)

/-- 'netcalculuslaw23.NetworkRates': WHATEVER THE INPUT: true; the input reads as it did. -/
def networkRatesSpec : ChangeSpec := { name := "networkRates", fn := fun _ => fun
  | [d1, d2, d3] => { results := [.lit (.bool true)], args := [d1, d2, d3] }
  | _ => none }
def networkRatesRow : OpenClaim := { program := "ytbbbmkjfmcnnfaa", sum := "e1c17e431814c85fb58bec08869a27f59a262bf8c3ed0359dbdfe6300b58e8dc", func := "netcalculus/netcalculuslaw23.NetworkRates", spec := "networkRates", unfollowed := true, recurses := true, apart := false }
def NetworkRatesSaid : Prop := networkRatesRow.holds Try.pinned (OpenSpec.ofChange networkRatesSpec)

/-- ITS FALSE NEIGHBOUR: 'it returns false'. Refute it at one input. -/
def networkRatesWrong : ChangeSpec := { name := "networkRates", fn := fun _ => fun
  | [d1, d2, d3] => { results := [.lit (.bool false)], args := [d1, d2, d3] }
  | _ => none }
def NetworkRatesWrongFalsely : Prop := networkRatesRow.holds Try.pinned (OpenSpec.ofChange networkRatesWrong)

/-- 'netcalculuslaw23.NetworkOrder': WHATEVER THE INPUT: true; the input reads as it did. -/
def networkOrderSpec : ChangeSpec := { name := "networkOrder", fn := fun _ => fun
  | [d] => { results := [.lit (.bool true)], args := [d] }
  | _ => none }
def networkOrderRow : OpenClaim := { program := "ytbbbmkjfmcnnfaa", sum := "e1c17e431814c85fb58bec08869a27f59a262bf8c3ed0359dbdfe6300b58e8dc", func := "netcalculus/netcalculuslaw23.NetworkOrder", spec := "networkOrder", unfollowed := true, recurses := true, apart := false }
def NetworkOrderSaid : Prop := networkOrderRow.holds Try.pinned (OpenSpec.ofChange networkOrderSpec)

/-- ITS FALSE NEIGHBOUR: 'it returns false'. Refute it at one input. -/
def networkOrderWrong : ChangeSpec := { name := "networkOrder", fn := fun _ => fun
  | [d] => { results := [.lit (.bool false)], args := [d] }
  | _ => none }
def NetworkOrderWrongFalsely : Prop := networkOrderRow.holds Try.pinned (OpenSpec.ofChange networkOrderWrong)

/-- 'netcalculuslaw23.NetworkBad': WHATEVER THE INPUT: true; the input reads as it did. -/
def networkBadSpec : ChangeSpec := { name := "networkBad", fn := fun _ => fun
  | [d1, d2] => { results := [.lit (.bool true)], args := [d1, d2] }
  | _ => none }
def networkBadRow : OpenClaim := { program := "ytbbbmkjfmcnnfaa", sum := "e1c17e431814c85fb58bec08869a27f59a262bf8c3ed0359dbdfe6300b58e8dc", func := "netcalculus/netcalculuslaw23.NetworkBad", spec := "networkBad", unfollowed := true, recurses := true, apart := false }
def NetworkBadSaid : Prop := networkBadRow.holds Try.pinned (OpenSpec.ofChange networkBadSpec)

/-- ITS FALSE NEIGHBOUR: 'it returns false'. Refute it at one input. -/
def networkBadWrong : ChangeSpec := { name := "networkBad", fn := fun _ => fun
  | [d1, d2] => { results := [.lit (.bool false)], args := [d1, d2] }
  | _ => none }
def NetworkBadWrongFalsely : Prop := networkBadRow.holds Try.pinned (OpenSpec.ofChange networkBadWrong)

/- THE SECOND FORM. 'bulk': how many values and letters a reading holds, each counted each time it is reached (what is shared counts as often as it is met; a slice's spare places count too). A statement '..UptoSaid' is the law's where the arguments, and the package variables that the reading takes, are together of bulk at most 1048576: NARROWER than '..Said'. Prove '..Said' where nothing that the law and all that it calls make is longer than what came in: it says more and counts as full. Else prove '..UptoSaid'. A law counts once. -/
mutual
def uptoBulk {H : Type} : DataW H → Nat
  | .lit (.string bytes) => bytes.length + 1
  | .lit _ => 1
  | .nil => 1
  | .ptr d => uptoBulk d + 1
  | .slice elems spare => uptoBulkAll elems + uptoBulkAll spare + 1
  | .agg parts => uptoBulkAll parts + 1
  | .iface _ d => uptoBulk d + 1
  | .map entries => uptoBulkEntries entries + 1
  | .held _ => 1
def uptoBulkAll {H : Type} : List (DataW H) → Nat
  | [] => 0
  | d :: r => uptoBulk d + uptoBulkAll r
def uptoBulkEntries {H : Type} : List (Lit × DataW H) → Nat
  | [] => 0
  | x :: r => uptoBulkEntry x + uptoBulkEntries r
def uptoBulkEntry {H : Type} : Lit × DataW H → Nat
  | (.string bytes, d) => bytes.length + uptoBulk d + 1
  | (_, d) => uptoBulk d + 1
 end
def uptoSmall : (H : Type) → List (DataW H) → Bool := fun _ ds => decide (uptoBulkAll ds ≤ 1048576)
def OpenSpec.upto (s : _root_.Go.ChangeSpec) : _root_.Go.OpenSpec := { _root_.Go.OpenSpec.ofChange s with cond := some uptoSmall }

/-- 'netcalculuslaw23.NetworkExact', WHERE WHAT IT READS IS OF BULK AT MOST 1048576: true; the input reads as it did. -/
def networkExactUptoRow : OpenClaim := { program := "ytbbbmkjfmcnnfaa", sum := "e1c17e431814c85fb58bec08869a27f59a262bf8c3ed0359dbdfe6300b58e8dc", func := "netcalculus/netcalculuslaw23.NetworkExact", spec := "networkExact", unfollowed := true, recurses := true, apart := false, narrowed := true }
def NetworkExactUptoSaid : Prop := networkExactUptoRow.holds Try.pinned (OpenSpec.upto networkExactSpec)

/-- 'netcalculuslaw23.NetworkDivides', WHERE WHAT IT READS IS OF BULK AT MOST 1048576: true; the input reads as it did. -/
def networkDividesUptoRow : OpenClaim := { program := "ytbbbmkjfmcnnfaa", sum := "e1c17e431814c85fb58bec08869a27f59a262bf8c3ed0359dbdfe6300b58e8dc", func := "netcalculus/netcalculuslaw23.NetworkDivides", spec := "networkDivides", unfollowed := true, recurses := true, apart := false, narrowed := true }
def NetworkDividesUptoSaid : Prop := networkDividesUptoRow.holds Try.pinned (OpenSpec.upto networkDividesSpec)

/-- 'netcalculuslaw23.NetworkRates', WHERE WHAT IT READS IS OF BULK AT MOST 1048576: true; the input reads as it did. -/
def networkRatesUptoRow : OpenClaim := { program := "ytbbbmkjfmcnnfaa", sum := "e1c17e431814c85fb58bec08869a27f59a262bf8c3ed0359dbdfe6300b58e8dc", func := "netcalculus/netcalculuslaw23.NetworkRates", spec := "networkRates", unfollowed := true, recurses := true, apart := false, narrowed := true }
def NetworkRatesUptoSaid : Prop := networkRatesUptoRow.holds Try.pinned (OpenSpec.upto networkRatesSpec)

/-- 'netcalculuslaw23.NetworkOrder', WHERE WHAT IT READS IS OF BULK AT MOST 1048576: true; the input reads as it did. -/
def networkOrderUptoRow : OpenClaim := { program := "ytbbbmkjfmcnnfaa", sum := "e1c17e431814c85fb58bec08869a27f59a262bf8c3ed0359dbdfe6300b58e8dc", func := "netcalculus/netcalculuslaw23.NetworkOrder", spec := "networkOrder", unfollowed := true, recurses := true, apart := false, narrowed := true }
def NetworkOrderUptoSaid : Prop := networkOrderUptoRow.holds Try.pinned (OpenSpec.upto networkOrderSpec)

/-- 'netcalculuslaw23.NetworkBad', WHERE WHAT IT READS IS OF BULK AT MOST 1048576: true; the input reads as it did. -/
def networkBadUptoRow : OpenClaim := { program := "ytbbbmkjfmcnnfaa", sum := "e1c17e431814c85fb58bec08869a27f59a262bf8c3ed0359dbdfe6300b58e8dc", func := "netcalculus/netcalculuslaw23.NetworkBad", spec := "networkBad", unfollowed := true, recurses := true, apart := false, narrowed := true }
def NetworkBadUptoSaid : Prop := networkBadUptoRow.holds Try.pinned (OpenSpec.upto networkBadSpec)

end Rows
end Go.Proofs.Ytbbbmkjfmcnnfaa
