/-
  No cell of these rows narrows 'for every input' (looked for: loops, veiled, ifaces, maps, wideKeys, modest, calm, conditions, laid).
  DERIVED. THE GIVEN ROWS OF THIS SEAT. 9 by the template 'for every input the law returns true; each argument reads behind the call as it read before'; 0 by the template 'total and deterministic' (their statements: YtaomhdljcdadaaaGreatTotals.lean).
  GIVEN WITH THE SEED: the statements are not yours to turn. If you find one false, say at which input.
  Laid BY PROGRAM, IN A SANDBOX (cutbox-rows.mjs): the forced cells as the released guide's own fill.sh prints them over the translation 113204a669dd9b1d… (all of the seat's roots in one cut). By AI agents, Wed Nov 11 2026. No macro, syntax, notation, axiom, sorry.
-/
import Derived.Test.YtaomhdljcdadaaaGreatChecked
import GoSem.Claim
import GoSem.ClaimJoined
import GoSem.ClaimMapViews
import Derived.JoinedTies
import Derived.KernelRfl
namespace Go.Proofs.YtaomhdljcdadaaaGreat
/- THE CELL 'sum', in the pinned program and in every row, IS THE sha256 OF THE DUMP (.gsa) THAT YtaomhdljcdadaaaGreatProg.lean LOADS. Nothing in Lean hashes anything: it is a label: what it is worth is what the hold of that sum in a sandbox is worth. -/
noncomputable def Tryz.pinned : Pinned := { name := "ytaomhdljcdadaaagreat", sum := "113204a669dd9b1d498b94f4f4acf4152b3a767056ea294e32c29e3d76673a2f", checked := Tryz.checked }
namespace Rows
def none {H : Type} : Left H := { results := [], args := [] }

/-- 'netcalculuslaw36.ObserveAdds': WHATEVER THE INPUT: true; the input reads as it did. -/
def observeAddsSpec : ChangeSpec := { name := "observeAdds", fn := fun _ => fun
  | [d] => { results := [.lit (.bool true)], args := [d] }
  | _ => none }
def observeAddsRow : OpenClaim := { program := "ytaomhdljcdadaaagreat", sum := "113204a669dd9b1d498b94f4f4acf4152b3a767056ea294e32c29e3d76673a2f", func := "netcalculus/netcalculuslaw36.ObserveAdds", spec := "observeAdds", unfollowed := true, recurses := true, apart := false }
def ObserveAddsSaid : Prop := observeAddsRow.holds Tryz.pinned (OpenSpec.ofChange observeAddsSpec)

/-- ITS FALSE NEIGHBOUR: 'it returns false'. Refute it at one input. -/
def observeAddsWrong : ChangeSpec := { name := "observeAdds", fn := fun _ => fun
  | [d] => { results := [.lit (.bool false)], args := [d] }
  | _ => none }
def ObserveAddsWrongFalsely : Prop := observeAddsRow.holds Tryz.pinned (OpenSpec.ofChange observeAddsWrong)

/-- 'netcalculuslaw36.ObserveWaiting': WHATEVER THE INPUT: true; the input reads as it did. -/
def observeWaitingSpec : ChangeSpec := { name := "observeWaiting", fn := fun _ => fun
  | [d1, d2] => { results := [.lit (.bool true)], args := [d1, d2] }
  | _ => none }
def observeWaitingRow : OpenClaim := { program := "ytaomhdljcdadaaagreat", sum := "113204a669dd9b1d498b94f4f4acf4152b3a767056ea294e32c29e3d76673a2f", func := "netcalculus/netcalculuslaw36.ObserveWaiting", spec := "observeWaiting", unfollowed := true, recurses := true, apart := false }
def ObserveWaitingSaid : Prop := observeWaitingRow.holds Tryz.pinned (OpenSpec.ofChange observeWaitingSpec)

/-- ITS FALSE NEIGHBOUR: 'it returns false'. Refute it at one input. -/
def observeWaitingWrong : ChangeSpec := { name := "observeWaiting", fn := fun _ => fun
  | [d1, d2] => { results := [.lit (.bool false)], args := [d1, d2] }
  | _ => none }
def ObserveWaitingWrongFalsely : Prop := observeWaitingRow.holds Tryz.pinned (OpenSpec.ofChange observeWaitingWrong)

/-- 'netcalculuslaw36.ObserveExact': WHATEVER THE INPUT: true; the input reads as it did. -/
def observeExactSpec : ChangeSpec := { name := "observeExact", fn := fun _ => fun
  | [d1, d2, d3, d4, d5, d6, d7, d8] => { results := [.lit (.bool true)], args := [d1, d2, d3, d4, d5, d6, d7, d8] }
  | _ => none }
def observeExactRow : OpenClaim := { program := "ytaomhdljcdadaaagreat", sum := "113204a669dd9b1d498b94f4f4acf4152b3a767056ea294e32c29e3d76673a2f", func := "netcalculus/netcalculuslaw36.ObserveExact", spec := "observeExact", unfollowed := true, recurses := true, apart := false }
def ObserveExactSaid : Prop := observeExactRow.holds Tryz.pinned (OpenSpec.ofChange observeExactSpec)

/-- ITS FALSE NEIGHBOUR: 'it returns false'. Refute it at one input. -/
def observeExactWrong : ChangeSpec := { name := "observeExact", fn := fun _ => fun
  | [d1, d2, d3, d4, d5, d6, d7, d8] => { results := [.lit (.bool false)], args := [d1, d2, d3, d4, d5, d6, d7, d8] }
  | _ => none }
def ObserveExactWrongFalsely : Prop := observeExactRow.holds Tryz.pinned (OpenSpec.ofChange observeExactWrong)

/-- 'netcalculuslaw35.SimulateExact': WHATEVER THE INPUT: true; the input reads as it did. -/
def simulateExactSpec : ChangeSpec := { name := "simulateExact", fn := fun _ => fun
  | [d1, d2, d3, d4, d5, d6, d7, d8] => { results := [.lit (.bool true)], args := [d1, d2, d3, d4, d5, d6, d7, d8] }
  | _ => none }
def simulateExactRow : OpenClaim := { program := "ytaomhdljcdadaaagreat", sum := "113204a669dd9b1d498b94f4f4acf4152b3a767056ea294e32c29e3d76673a2f", func := "netcalculus/netcalculuslaw35.SimulateExact", spec := "simulateExact", unfollowed := true, recurses := true, apart := false }
def SimulateExactSaid : Prop := simulateExactRow.holds Tryz.pinned (OpenSpec.ofChange simulateExactSpec)

/-- ITS FALSE NEIGHBOUR: 'it returns false'. Refute it at one input. -/
def simulateExactWrong : ChangeSpec := { name := "simulateExact", fn := fun _ => fun
  | [d1, d2, d3, d4, d5, d6, d7, d8] => { results := [.lit (.bool false)], args := [d1, d2, d3, d4, d5, d6, d7, d8] }
  | _ => none }
def SimulateExactWrongFalsely : Prop := simulateExactRow.holds Tryz.pinned (OpenSpec.ofChange simulateExactWrong)

/-- 'netcalculuslaw35.SimulateCauses': WHATEVER THE INPUT: true; the input reads as it did. -/
def simulateCausesSpec : ChangeSpec := { name := "simulateCauses", fn := fun _ => fun
  | [d1, d2] => { results := [.lit (.bool true)], args := [d1, d2] }
  | _ => none }
def simulateCausesRow : OpenClaim := { program := "ytaomhdljcdadaaagreat", sum := "113204a669dd9b1d498b94f4f4acf4152b3a767056ea294e32c29e3d76673a2f", func := "netcalculus/netcalculuslaw35.SimulateCauses", spec := "simulateCauses", unfollowed := true, recurses := true, apart := false }
def SimulateCausesSaid : Prop := simulateCausesRow.holds Tryz.pinned (OpenSpec.ofChange simulateCausesSpec)

/-- ITS FALSE NEIGHBOUR: 'it returns false'. Refute it at one input. -/
def simulateCausesWrong : ChangeSpec := { name := "simulateCauses", fn := fun _ => fun
  | [d1, d2] => { results := [.lit (.bool false)], args := [d1, d2] }
  | _ => none }
def SimulateCausesWrongFalsely : Prop := simulateCausesRow.holds Tryz.pinned (OpenSpec.ofChange simulateCausesWrong)

/-- 'netcalculuslaw35.SimulateOrder': WHATEVER THE INPUT: true; the input reads as it did. -/
def simulateOrderSpec : ChangeSpec := { name := "simulateOrder", fn := fun _ => fun
  | [d] => { results := [.lit (.bool true)], args := [d] }
  | _ => none }
def simulateOrderRow : OpenClaim := { program := "ytaomhdljcdadaaagreat", sum := "113204a669dd9b1d498b94f4f4acf4152b3a767056ea294e32c29e3d76673a2f", func := "netcalculus/netcalculuslaw35.SimulateOrder", spec := "simulateOrder", unfollowed := true, recurses := true, apart := false }
def SimulateOrderSaid : Prop := simulateOrderRow.holds Tryz.pinned (OpenSpec.ofChange simulateOrderSpec)

/-- ITS FALSE NEIGHBOUR: 'it returns false'. Refute it at one input. -/
def simulateOrderWrong : ChangeSpec := { name := "simulateOrder", fn := fun _ => fun
  | [d] => { results := [.lit (.bool false)], args := [d] }
  | _ => none }
def SimulateOrderWrongFalsely : Prop := simulateOrderRow.holds Tryz.pinned (OpenSpec.ofChange simulateOrderWrong)

/-- 'netcalculuslaw35.SimulateFlows': WHATEVER THE INPUT: true; the input reads as it did. -/
def simulateFlowsSpec : ChangeSpec := { name := "simulateFlows", fn := fun _ => fun
  | [d1, d2] => { results := [.lit (.bool true)], args := [d1, d2] }
  | _ => none }
def simulateFlowsRow : OpenClaim := { program := "ytaomhdljcdadaaagreat", sum := "113204a669dd9b1d498b94f4f4acf4152b3a767056ea294e32c29e3d76673a2f", func := "netcalculus/netcalculuslaw35.SimulateFlows", spec := "simulateFlows", unfollowed := true, recurses := true, apart := false }
def SimulateFlowsSaid : Prop := simulateFlowsRow.holds Tryz.pinned (OpenSpec.ofChange simulateFlowsSpec)

/-- ITS FALSE NEIGHBOUR: 'it returns false'. Refute it at one input. -/
def simulateFlowsWrong : ChangeSpec := { name := "simulateFlows", fn := fun _ => fun
  | [d1, d2] => { results := [.lit (.bool false)], args := [d1, d2] }
  | _ => none }
def SimulateFlowsWrongFalsely : Prop := simulateFlowsRow.holds Tryz.pinned (OpenSpec.ofChange simulateFlowsWrong)

/-- 'netcalculuslaw35.SimulateEnds': WHATEVER THE INPUT: true; the input reads as it did. -/
def simulateEndsSpec : ChangeSpec := { name := "simulateEnds", fn := fun _ => fun
  | [d] => { results := [.lit (.bool true)], args := [d] }
  | _ => none }
def simulateEndsRow : OpenClaim := { program := "ytaomhdljcdadaaagreat", sum := "113204a669dd9b1d498b94f4f4acf4152b3a767056ea294e32c29e3d76673a2f", func := "netcalculus/netcalculuslaw35.SimulateEnds", spec := "simulateEnds", unfollowed := true, recurses := true, apart := false }
def SimulateEndsSaid : Prop := simulateEndsRow.holds Tryz.pinned (OpenSpec.ofChange simulateEndsSpec)

/-- ITS FALSE NEIGHBOUR: 'it returns false'. Refute it at one input. -/
def simulateEndsWrong : ChangeSpec := { name := "simulateEnds", fn := fun _ => fun
  | [d] => { results := [.lit (.bool false)], args := [d] }
  | _ => none }
def SimulateEndsWrongFalsely : Prop := simulateEndsRow.holds Tryz.pinned (OpenSpec.ofChange simulateEndsWrong)

/-- 'netcalculuslaw35.SimulateBytes': WHATEVER THE INPUT: true; the input reads as it did. -/
def simulateBytesSpec : ChangeSpec := { name := "simulateBytes", fn := fun _ => fun
  | [d1, d2, d3] => { results := [.lit (.bool true)], args := [d1, d2, d3] }
  | _ => none }
def simulateBytesRow : OpenClaim := { program := "ytaomhdljcdadaaagreat", sum := "113204a669dd9b1d498b94f4f4acf4152b3a767056ea294e32c29e3d76673a2f", func := "netcalculus/netcalculuslaw35.SimulateBytes", spec := "simulateBytes", unfollowed := true, recurses := true, apart := false }
def SimulateBytesSaid : Prop := simulateBytesRow.holds Tryz.pinned (OpenSpec.ofChange simulateBytesSpec)

/-- ITS FALSE NEIGHBOUR: 'it returns false'. Refute it at one input. -/
def simulateBytesWrong : ChangeSpec := { name := "simulateBytes", fn := fun _ => fun
  | [d1, d2, d3] => { results := [.lit (.bool false)], args := [d1, d2, d3] }
  | _ => none }
def SimulateBytesWrongFalsely : Prop := simulateBytesRow.holds Tryz.pinned (OpenSpec.ofChange simulateBytesWrong)

/- THE SECOND FORM. 'bulk': how many values and letters a reading holds, each counted each time it is reached (what is shared counts as often as it is met; a slice's spare places count too). A statement '..UptoSaid' is the law's where the arguments, and the package variables that the reading takes, are together of bulk at most 1048576: NARROWER than '..Said'. Prove '..Said' where nothing that the law and all that it calls make is longer than what came in: it says more and counts as full. Else prove '..UptoSaid'. A law counts once. -/
mutual
def uptoBulk {H : Type} : DataW H → Nat
  | .lit (.string bytes) => bytes.length + 1
  | .lit _ => 1
  | .nil => 1
  | .ptr d => uptoBulk d + 1
  | .slice elems spare => uptoBulkAll elems + uptoBulkAll spare + 1
  | .agg parts => uptoBulkAll parts + 1
  | .iface _ d => uptoBulk d + 1
  | .map entries => uptoBulkEntries entries + 1
  | .held _ => 1
def uptoBulkAll {H : Type} : List (DataW H) → Nat
  | [] => 0
  | d :: r => uptoBulk d + uptoBulkAll r
def uptoBulkEntries {H : Type} : List (Lit × DataW H) → Nat
  | [] => 0
  | x :: r => uptoBulkEntry x + uptoBulkEntries r
def uptoBulkEntry {H : Type} : Lit × DataW H → Nat
  | (.string bytes, d) => bytes.length + uptoBulk d + 1
  | (_, d) => uptoBulk d + 1
 end
def uptoSmall : (H : Type) → List (DataW H) → Bool := fun _ ds => decide (uptoBulkAll ds ≤ 1048576)
def OpenSpec.upto (s : _root_.Go.ChangeSpec) : _root_.Go.OpenSpec := { _root_.Go.OpenSpec.ofChange s with cond := some uptoSmall }

/-- 'netcalculuslaw36.ObserveAdds', WHERE WHAT IT READS IS OF BULK AT MOST 1048576: true; the input reads as it did. -/
def observeAddsUptoRow : OpenClaim := { program := "ytaomhdljcdadaaagreat", sum := "113204a669dd9b1d498b94f4f4acf4152b3a767056ea294e32c29e3d76673a2f", func := "netcalculus/netcalculuslaw36.ObserveAdds", spec := "observeAdds", unfollowed := true, recurses := true, apart := false, narrowed := true }
def ObserveAddsUptoSaid : Prop := observeAddsUptoRow.holds Tryz.pinned (OpenSpec.upto observeAddsSpec)

/-- 'netcalculuslaw36.ObserveWaiting', WHERE WHAT IT READS IS OF BULK AT MOST 1048576: true; the input reads as it did. -/
def observeWaitingUptoRow : OpenClaim := { program := "ytaomhdljcdadaaagreat", sum := "113204a669dd9b1d498b94f4f4acf4152b3a767056ea294e32c29e3d76673a2f", func := "netcalculus/netcalculuslaw36.ObserveWaiting", spec := "observeWaiting", unfollowed := true, recurses := true, apart := false, narrowed := true }
def ObserveWaitingUptoSaid : Prop := observeWaitingUptoRow.holds Tryz.pinned (OpenSpec.upto observeWaitingSpec)

/-- 'netcalculuslaw36.ObserveExact', WHERE WHAT IT READS IS OF BULK AT MOST 1048576: true; the input reads as it did. -/
def observeExactUptoRow : OpenClaim := { program := "ytaomhdljcdadaaagreat", sum := "113204a669dd9b1d498b94f4f4acf4152b3a767056ea294e32c29e3d76673a2f", func := "netcalculus/netcalculuslaw36.ObserveExact", spec := "observeExact", unfollowed := true, recurses := true, apart := false, narrowed := true }
def ObserveExactUptoSaid : Prop := observeExactUptoRow.holds Tryz.pinned (OpenSpec.upto observeExactSpec)

/-- 'netcalculuslaw35.SimulateExact', WHERE WHAT IT READS IS OF BULK AT MOST 1048576: true; the input reads as it did. -/
def simulateExactUptoRow : OpenClaim := { program := "ytaomhdljcdadaaagreat", sum := "113204a669dd9b1d498b94f4f4acf4152b3a767056ea294e32c29e3d76673a2f", func := "netcalculus/netcalculuslaw35.SimulateExact", spec := "simulateExact", unfollowed := true, recurses := true, apart := false, narrowed := true }
def SimulateExactUptoSaid : Prop := simulateExactUptoRow.holds Tryz.pinned (OpenSpec.upto simulateExactSpec)

/-- 'netcalculuslaw35.SimulateCauses', WHERE WHAT IT READS IS OF BULK AT MOST 1048576: true; the input reads as it did. -/
def simulateCausesUptoRow : OpenClaim := { program := "ytaomhdljcdadaaagreat", sum := "113204a669dd9b1d498b94f4f4acf4152b3a767056ea294e32c29e3d76673a2f", func := "netcalculus/netcalculuslaw35.SimulateCauses", spec := "simulateCauses", unfollowed := true, recurses := true, apart := false, narrowed := true }
def SimulateCausesUptoSaid : Prop := simulateCausesUptoRow.holds Tryz.pinned (OpenSpec.upto simulateCausesSpec)

/-- 'netcalculuslaw35.SimulateOrder', WHERE WHAT IT READS IS OF BULK AT MOST 1048576: true; the input reads as it did. -/
def simulateOrderUptoRow : OpenClaim := { program := "ytaomhdljcdadaaagreat", sum := "113204a669dd9b1d498b94f4f4acf4152b3a767056ea294e32c29e3d76673a2f", func := "netcalculus/netcalculuslaw35.SimulateOrder", spec := "simulateOrder", unfollowed := true, recurses := true, apart := false, narrowed := true }
def SimulateOrderUptoSaid : Prop := simulateOrderUptoRow.holds Tryz.pinned (OpenSpec.upto simulateOrderSpec)

/-- 'netcalculuslaw35.SimulateFlows', WHERE WHAT IT READS IS OF BULK AT MOST 1048576: true; the input reads as it did. -/
def simulateFlowsUptoRow : OpenClaim := { program := "ytaomhdljcdadaaagreat", sum := "113204a669dd9b1d498b94f4f4acf4152b3a767056ea294e32c29e3d76673a2f", func := "netcalculus/netcalculuslaw35.SimulateFlows", spec := "simulateFlows", unfollowed := true, recurses := true, apart := false, narrowed := true }
def SimulateFlowsUptoSaid : Prop := simulateFlowsUptoRow.holds Tryz.pinned (OpenSpec.upto simulateFlowsSpec)

/-- 'netcalculuslaw35.SimulateEnds', WHERE WHAT IT READS IS OF BULK AT MOST 1048576: true; the input reads as it did. -/
def simulateEndsUptoRow : OpenClaim := { program := "ytaomhdljcdadaaagreat", sum := "113204a669dd9b1d498b94f4f4acf4152b3a767056ea294e32c29e3d76673a2f", func := "netcalculus/netcalculuslaw35.SimulateEnds", spec := "simulateEnds", unfollowed := true, recurses := true, apart := false, narrowed := true }
def SimulateEndsUptoSaid : Prop := simulateEndsUptoRow.holds Tryz.pinned (OpenSpec.upto simulateEndsSpec)

/-- 'netcalculuslaw35.SimulateBytes', WHERE WHAT IT READS IS OF BULK AT MOST 1048576: true; the input reads as it did. -/
def simulateBytesUptoRow : OpenClaim := { program := "ytaomhdljcdadaaagreat", sum := "113204a669dd9b1d498b94f4f4acf4152b3a767056ea294e32c29e3d76673a2f", func := "netcalculus/netcalculuslaw35.SimulateBytes", spec := "simulateBytes", unfollowed := true, recurses := true, apart := false, narrowed := true }
def SimulateBytesUptoSaid : Prop := simulateBytesUptoRow.holds Tryz.pinned (OpenSpec.upto simulateBytesSpec)

end Rows
end Go.Proofs.YtaomhdljcdadaaaGreat
