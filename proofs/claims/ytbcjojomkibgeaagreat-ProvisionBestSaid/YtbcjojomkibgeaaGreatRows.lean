/-
  No cell of these rows narrows 'for every input' (looked for: loops, veiled, ifaces, maps, wideKeys, modest, calm, conditions, laid).
  DERIVED. THE GIVEN ROWS OF THIS SEAT. 3 by the template 'for every input the law returns true; each argument reads behind the call as it read before'; 0 by the template 'total and deterministic' (their statements: YtbcjojomkibgeaaGreatTotals.lean).
  GIVEN WITH THE SEED: the statements are not yours to turn. If you find one false, say at which input.
  Laid BY PROGRAM, IN A SANDBOX (cutbox-rows.mjs): the forced cells as the released guide's own fill.sh prints them over the translation e5f87ba0013bed6c… (all of the seat's roots in one cut). By AI agents, Wed Nov 11 2026. No macro, syntax, notation, axiom, sorry.
-/
import Derived.Test.YtbcjojomkibgeaaGreatChecked
import GoSem.Claim
import GoSem.ClaimJoined
import GoSem.ClaimMapViews
import Derived.JoinedTies
import Derived.KernelRfl
namespace Go.Proofs.YtbcjojomkibgeaaGreat
/- THE CELL 'sum', in the pinned program and in every row, IS THE sha256 OF THE DUMP (.gsa) THAT YtbcjojomkibgeaaGreatProg.lean LOADS. Nothing in Lean hashes anything: it is a label: what it is worth is what the hold of that sum in a sandbox is worth. -/
noncomputable def Tryz.pinned : Pinned := { name := "ytbcjojomkibgeaagreat", sum := "e5f87ba0013bed6c0970e0e2e7aa5bfb15dcd750b362e31a5f3dd51d3f472923", checked := Tryz.checked }
namespace Rows
def none {H : Type} : Left H := { results := [], args := [] }

/-- 'netcalculuslaw34.ProvisionExact': WHATEVER THE INPUT: true; the input reads as it did. -/
def provisionExactSpec : ChangeSpec := { name := "provisionExact", fn := fun _ => fun
  | [d1, d2, d3, d4] => { results := [.lit (.bool true)], args := [d1, d2, d3, d4] }
  | _ => none }
def provisionExactRow : OpenClaim := { program := "ytbcjojomkibgeaagreat", sum := "e5f87ba0013bed6c0970e0e2e7aa5bfb15dcd750b362e31a5f3dd51d3f472923", func := "netcalculus/netcalculuslaw34.ProvisionExact", spec := "provisionExact", unfollowed := true, recurses := true, apart := false }
def ProvisionExactSaid : Prop := provisionExactRow.holds Tryz.pinned (OpenSpec.ofChange provisionExactSpec)

/-- ITS FALSE NEIGHBOUR: 'it returns false'. Refute it at one input. -/
def provisionExactWrong : ChangeSpec := { name := "provisionExact", fn := fun _ => fun
  | [d1, d2, d3, d4] => { results := [.lit (.bool false)], args := [d1, d2, d3, d4] }
  | _ => none }
def ProvisionExactWrongFalsely : Prop := provisionExactRow.holds Tryz.pinned (OpenSpec.ofChange provisionExactWrong)

/-- 'netcalculuslaw34.ProvisionBest': WHATEVER THE INPUT: true; the input reads as it did. -/
def provisionBestSpec : ChangeSpec := { name := "provisionBest", fn := fun _ => fun
  | [d] => { results := [.lit (.bool true)], args := [d] }
  | _ => none }
def provisionBestRow : OpenClaim := { program := "ytbcjojomkibgeaagreat", sum := "e5f87ba0013bed6c0970e0e2e7aa5bfb15dcd750b362e31a5f3dd51d3f472923", func := "netcalculus/netcalculuslaw34.ProvisionBest", spec := "provisionBest", unfollowed := true, recurses := true, apart := false }
def ProvisionBestSaid : Prop := provisionBestRow.holds Tryz.pinned (OpenSpec.ofChange provisionBestSpec)

/-- ITS FALSE NEIGHBOUR: 'it returns false'. Refute it at one input. -/
def provisionBestWrong : ChangeSpec := { name := "provisionBest", fn := fun _ => fun
  | [d] => { results := [.lit (.bool false)], args := [d] }
  | _ => none }
def ProvisionBestWrongFalsely : Prop := provisionBestRow.holds Tryz.pinned (OpenSpec.ofChange provisionBestWrong)

/-- 'netcalculuslaw34.ProvisionFree': WHATEVER THE INPUT: true; the input reads as it did. -/
def provisionFreeSpec : ChangeSpec := { name := "provisionFree", fn := fun _ => fun
  | [d1, d2, d3] => { results := [.lit (.bool true)], args := [d1, d2, d3] }
  | _ => none }
def provisionFreeRow : OpenClaim := { program := "ytbcjojomkibgeaagreat", sum := "e5f87ba0013bed6c0970e0e2e7aa5bfb15dcd750b362e31a5f3dd51d3f472923", func := "netcalculus/netcalculuslaw34.ProvisionFree", spec := "provisionFree", unfollowed := true, recurses := true, apart := false }
def ProvisionFreeSaid : Prop := provisionFreeRow.holds Tryz.pinned (OpenSpec.ofChange provisionFreeSpec)

/-- ITS FALSE NEIGHBOUR: 'it returns false'. Refute it at one input. -/
def provisionFreeWrong : ChangeSpec := { name := "provisionFree", fn := fun _ => fun
  | [d1, d2, d3] => { results := [.lit (.bool false)], args := [d1, d2, d3] }
  | _ => none }
def ProvisionFreeWrongFalsely : Prop := provisionFreeRow.holds Tryz.pinned (OpenSpec.ofChange provisionFreeWrong)

/- THE SECOND FORM. 'bulk': how many values and letters a reading holds, each counted each time it is reached (what is shared counts as often as it is met; a slice's spare places count too). A statement '..UptoSaid' is the law's where the arguments, and the package variables that the reading takes, are together of bulk at most 1048576: NARROWER than '..Said'. Prove '..Said' where nothing that the law and all that it calls make is longer than what came in: it says more and counts as full. Else prove '..UptoSaid'. A law counts once. -/
mutual
def uptoBulk {H : Type} : DataW H → Nat
  | .lit (.string bytes) => bytes.length + 1
  | .lit _ => 1
  | .nil => 1
  | .ptr d => uptoBulk d + 1
  | .slice elems spare => uptoBulkAll elems + uptoBulkAll spare + 1
  | .agg parts => uptoBulkAll parts + 1
  | .iface _ d => uptoBulk d + 1
  | .map entries => uptoBulkEntries entries + 1
  | .held _ => 1
def uptoBulkAll {H : Type} : List (DataW H) → Nat
  | [] => 0
  | d :: r => uptoBulk d + uptoBulkAll r
def uptoBulkEntries {H : Type} : List (Lit × DataW H) → Nat
  | [] => 0
  | x :: r => uptoBulkEntry x + uptoBulkEntries r
def uptoBulkEntry {H : Type} : Lit × DataW H → Nat
  | (.string bytes, d) => bytes.length + uptoBulk d + 1
  | (_, d) => uptoBulk d + 1
 end
def uptoSmall : (H : Type) → List (DataW H) → Bool := fun _ ds => decide (uptoBulkAll ds ≤ 1048576)
def OpenSpec.upto (s : _root_.Go.ChangeSpec) : _root_.Go.OpenSpec := { _root_.Go.OpenSpec.ofChange s with cond := some uptoSmall }

/-- 'netcalculuslaw34.ProvisionExact', WHERE WHAT IT READS IS OF BULK AT MOST 1048576: true; the input reads as it did. -/
def provisionExactUptoRow : OpenClaim := { program := "ytbcjojomkibgeaagreat", sum := "e5f87ba0013bed6c0970e0e2e7aa5bfb15dcd750b362e31a5f3dd51d3f472923", func := "netcalculus/netcalculuslaw34.ProvisionExact", spec := "provisionExact", unfollowed := true, recurses := true, apart := false, narrowed := true }
def ProvisionExactUptoSaid : Prop := provisionExactUptoRow.holds Tryz.pinned (OpenSpec.upto provisionExactSpec)

/-- 'netcalculuslaw34.ProvisionBest', WHERE WHAT IT READS IS OF BULK AT MOST 1048576: true; the input reads as it did. -/
def provisionBestUptoRow : OpenClaim := { program := "ytbcjojomkibgeaagreat", sum := "e5f87ba0013bed6c0970e0e2e7aa5bfb15dcd750b362e31a5f3dd51d3f472923", func := "netcalculus/netcalculuslaw34.ProvisionBest", spec := "provisionBest", unfollowed := true, recurses := true, apart := false, narrowed := true }
def ProvisionBestUptoSaid : Prop := provisionBestUptoRow.holds Tryz.pinned (OpenSpec.upto provisionBestSpec)

/-- 'netcalculuslaw34.ProvisionFree', WHERE WHAT IT READS IS OF BULK AT MOST 1048576: true; the input reads as it did. -/
def provisionFreeUptoRow : OpenClaim := { program := "ytbcjojomkibgeaagreat", sum := "e5f87ba0013bed6c0970e0e2e7aa5bfb15dcd750b362e31a5f3dd51d3f472923", func := "netcalculus/netcalculuslaw34.ProvisionFree", spec := "provisionFree", unfollowed := true, recurses := true, apart := false, narrowed := true }
def ProvisionFreeUptoSaid : Prop := provisionFreeUptoRow.holds Tryz.pinned (OpenSpec.upto provisionFreeSpec)

end Rows
end Go.Proofs.YtbcjojomkibgeaaGreat
