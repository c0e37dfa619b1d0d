/-
  No cell of these rows narrows 'for every input' (looked for: loops, veiled, ifaces, maps, wideKeys, modest, calm, conditions, laid).
  DERIVED. THE GIVEN ROWS OF THIS SEAT. 9 by the template 'for every input the law returns true; each argument reads behind the call as it read before'; 0 by the template 'total and deterministic' (their statements: YtnlmmjmcackgjaaTotals.lean).
  GIVEN WITH THE SEED: the statements are not yours to turn. If you find one false, say at which input.
  Laid BY PROGRAM, IN A SANDBOX (cutbox-rows.mjs): the forced cells as the released guide's own fill.sh prints them over the translation 02e47881a4d0f841… (all of the seat's roots in one cut). By AI agents, Wed Nov 11 2026. No macro, syntax, notation, axiom, sorry.
-/
import Derived.Test.YtnlmmjmcackgjaaChecked
import GoSem.Claim
import GoSem.ClaimJoined
import GoSem.ClaimMapViews
import Derived.JoinedTies
import Derived.KernelRfl
namespace Go.Proofs.Ytnlmmjmcackgjaa
/- THE CELL 'sum', in the pinned program and in every row, IS THE sha256 OF THE DUMP (.gsa) THAT YtnlmmjmcackgjaaProg.lean LOADS. Nothing in Lean hashes anything: it is a label: what it is worth is what the hold of that sum in a sandbox is worth. -/
noncomputable def Try.pinned : Pinned := { name := "ytnlmmjmcackgjaa", sum := "02e47881a4d0f841a4c6f3c9565f125b806a6cc34e458a28e300ce8fb19a9c33", checked := Try.checked }
namespace Rows
def none {H : Type} : Left H := { results := [], args := [] }

/-- 'netcalculuslaw25.TopologyReaches': WHATEVER THE INPUT: true; the input reads as it did. -/
def topologyReachesSpec : ChangeSpec := { name := "topologyReaches", fn := fun _ => fun
  | [d1, d2, d3, d4] => { results := [.lit (.bool true)], args := [d1, d2, d3, d4] }
  | _ => none }
def topologyReachesRow : OpenClaim := { program := "ytnlmmjmcackgjaa", sum := "02e47881a4d0f841a4c6f3c9565f125b806a6cc34e458a28e300ce8fb19a9c33", func := "netcalculus/netcalculuslaw25.TopologyReaches", spec := "topologyReaches", unfollowed := true, recurses := true, apart := false }
def TopologyReachesSaid : Prop := topologyReachesRow.holds Try.pinned (OpenSpec.ofChange topologyReachesSpec)

/-- ITS FALSE NEIGHBOUR: 'it returns false'. Refute it at one input. -/
def topologyReachesWrong : ChangeSpec := { name := "topologyReaches", fn := fun _ => fun
  | [d1, d2, d3, d4] => { results := [.lit (.bool false)], args := [d1, d2, d3, d4] }
  | _ => none }
def TopologyReachesWrongFalsely : Prop := topologyReachesRow.holds Try.pinned (OpenSpec.ofChange topologyReachesWrong)

/-- 'netcalculuslaw25.TopologyExact': WHATEVER THE INPUT: true; the input reads as it did. -/
def topologyExactSpec : ChangeSpec := { name := "topologyExact", fn := fun _ => fun
  | [d1, d2, d3, d4] => { results := [.lit (.bool true)], args := [d1, d2, d3, d4] }
  | _ => none }
def topologyExactRow : OpenClaim := { program := "ytnlmmjmcackgjaa", sum := "02e47881a4d0f841a4c6f3c9565f125b806a6cc34e458a28e300ce8fb19a9c33", func := "netcalculus/netcalculuslaw25.TopologyExact", spec := "topologyExact", unfollowed := true, recurses := true, apart := false }
def TopologyExactSaid : Prop := topologyExactRow.holds Try.pinned (OpenSpec.ofChange topologyExactSpec)

/-- ITS FALSE NEIGHBOUR: 'it returns false'. Refute it at one input. -/
def topologyExactWrong : ChangeSpec := { name := "topologyExact", fn := fun _ => fun
  | [d1, d2, d3, d4] => { results := [.lit (.bool false)], args := [d1, d2, d3, d4] }
  | _ => none }
def TopologyExactWrongFalsely : Prop := topologyExactRow.holds Try.pinned (OpenSpec.ofChange topologyExactWrong)

/-- 'netcalculuslaw25.TopologyOrder': WHATEVER THE INPUT: true; the input reads as it did. -/
def topologyOrderSpec : ChangeSpec := { name := "topologyOrder", fn := fun _ => fun
  | [d] => { results := [.lit (.bool true)], args := [d] }
  | _ => none }
def topologyOrderRow : OpenClaim := { program := "ytnlmmjmcackgjaa", sum := "02e47881a4d0f841a4c6f3c9565f125b806a6cc34e458a28e300ce8fb19a9c33", func := "netcalculus/netcalculuslaw25.TopologyOrder", spec := "topologyOrder", unfollowed := true, recurses := true, apart := false }
def TopologyOrderSaid : Prop := topologyOrderRow.holds Try.pinned (OpenSpec.ofChange topologyOrderSpec)

/-- ITS FALSE NEIGHBOUR: 'it returns false'. Refute it at one input. -/
def topologyOrderWrong : ChangeSpec := { name := "topologyOrder", fn := fun _ => fun
  | [d] => { results := [.lit (.bool false)], args := [d] }
  | _ => none }
def TopologyOrderWrongFalsely : Prop := topologyOrderRow.holds Try.pinned (OpenSpec.ofChange topologyOrderWrong)

/-- 'netcalculuslaw25.TopologyCut': WHATEVER THE INPUT: true; the input reads as it did. -/
def topologyCutSpec : ChangeSpec := { name := "topologyCut", fn := fun _ => fun
  | [d] => { results := [.lit (.bool true)], args := [d] }
  | _ => none }
def topologyCutRow : OpenClaim := { program := "ytnlmmjmcackgjaa", sum := "02e47881a4d0f841a4c6f3c9565f125b806a6cc34e458a28e300ce8fb19a9c33", func := "netcalculus/netcalculuslaw25.TopologyCut", spec := "topologyCut", unfollowed := true, recurses := true, apart := false }
def TopologyCutSaid : Prop := topologyCutRow.holds Try.pinned (OpenSpec.ofChange topologyCutSpec)

/-- ITS FALSE NEIGHBOUR: 'it returns false'. Refute it at one input. -/
def topologyCutWrong : ChangeSpec := { name := "topologyCut", fn := fun _ => fun
  | [d] => { results := [.lit (.bool false)], args := [d] }
  | _ => none }
def TopologyCutWrongFalsely : Prop := topologyCutRow.holds Try.pinned (OpenSpec.ofChange topologyCutWrong)

/-- 'netcalculuslaw25.TopologyLevels': WHATEVER THE INPUT: true; the input reads as it did. -/
def topologyLevelsSpec : ChangeSpec := { name := "topologyLevels", fn := fun _ => fun
  | [d] => { results := [.lit (.bool true)], args := [d] }
  | _ => none }
def topologyLevelsRow : OpenClaim := { program := "ytnlmmjmcackgjaa", sum := "02e47881a4d0f841a4c6f3c9565f125b806a6cc34e458a28e300ce8fb19a9c33", func := "netcalculus/netcalculuslaw25.TopologyLevels", spec := "topologyLevels", unfollowed := true, recurses := true, apart := false }
def TopologyLevelsSaid : Prop := topologyLevelsRow.holds Try.pinned (OpenSpec.ofChange topologyLevelsSpec)

/-- ITS FALSE NEIGHBOUR: 'it returns false'. Refute it at one input. -/
def topologyLevelsWrong : ChangeSpec := { name := "topologyLevels", fn := fun _ => fun
  | [d] => { results := [.lit (.bool false)], args := [d] }
  | _ => none }
def TopologyLevelsWrongFalsely : Prop := topologyLevelsRow.holds Try.pinned (OpenSpec.ofChange topologyLevelsWrong)

/-- 'netcalculuslaw25.TopologyFewer': WHATEVER THE INPUT: true; the input reads as it did. -/
def topologyFewerSpec : ChangeSpec := { name := "topologyFewer", fn := fun _ => fun
  | [d1, d2] => { results := [.lit (.bool true)], args := [d1, d2] }
  | _ => none }
def topologyFewerRow : OpenClaim := { program := "ytnlmmjmcackgjaa", sum := "02e47881a4d0f841a4c6f3c9565f125b806a6cc34e458a28e300ce8fb19a9c33", func := "netcalculus/netcalculuslaw25.TopologyFewer", spec := "topologyFewer", unfollowed := true, recurses := true, apart := false }
def TopologyFewerSaid : Prop := topologyFewerRow.holds Try.pinned (OpenSpec.ofChange topologyFewerSpec)

/-- ITS FALSE NEIGHBOUR: 'it returns false'. Refute it at one input. -/
def topologyFewerWrong : ChangeSpec := { name := "topologyFewer", fn := fun _ => fun
  | [d1, d2] => { results := [.lit (.bool false)], args := [d1, d2] }
  | _ => none }
def TopologyFewerWrongFalsely : Prop := topologyFewerRow.holds Try.pinned (OpenSpec.ofChange topologyFewerWrong)

/-- 'netcalculuslaw26.LoadGrows': WHATEVER THE INPUT: true; the input reads as it did. -/
def loadGrowsSpec : ChangeSpec := { name := "loadGrows", fn := fun _ => fun
  | [d1, d2, d3] => { results := [.lit (.bool true)], args := [d1, d2, d3] }
  | _ => none }
def loadGrowsRow : OpenClaim := { program := "ytnlmmjmcackgjaa", sum := "02e47881a4d0f841a4c6f3c9565f125b806a6cc34e458a28e300ce8fb19a9c33", func := "netcalculus/netcalculuslaw26.LoadGrows", spec := "loadGrows", unfollowed := true, recurses := true, apart := false }
def LoadGrowsSaid : Prop := loadGrowsRow.holds Try.pinned (OpenSpec.ofChange loadGrowsSpec)

/-- ITS FALSE NEIGHBOUR: 'it returns false'. Refute it at one input. -/
def loadGrowsWrong : ChangeSpec := { name := "loadGrows", fn := fun _ => fun
  | [d1, d2, d3] => { results := [.lit (.bool false)], args := [d1, d2, d3] }
  | _ => none }
def LoadGrowsWrongFalsely : Prop := loadGrowsRow.holds Try.pinned (OpenSpec.ofChange loadGrowsWrong)

/-- 'netcalculuslaw26.LoadOverloaded': WHATEVER THE INPUT: true; the input reads as it did. -/
def loadOverloadedSpec : ChangeSpec := { name := "loadOverloaded", fn := fun _ => fun
  | [d1, d2] => { results := [.lit (.bool true)], args := [d1, d2] }
  | _ => none }
def loadOverloadedRow : OpenClaim := { program := "ytnlmmjmcackgjaa", sum := "02e47881a4d0f841a4c6f3c9565f125b806a6cc34e458a28e300ce8fb19a9c33", func := "netcalculus/netcalculuslaw26.LoadOverloaded", spec := "loadOverloaded", unfollowed := true, recurses := true, apart := false }
def LoadOverloadedSaid : Prop := loadOverloadedRow.holds Try.pinned (OpenSpec.ofChange loadOverloadedSpec)

/-- ITS FALSE NEIGHBOUR: 'it returns false'. Refute it at one input. -/
def loadOverloadedWrong : ChangeSpec := { name := "loadOverloaded", fn := fun _ => fun
  | [d1, d2] => { results := [.lit (.bool false)], args := [d1, d2] }
  | _ => none }
def LoadOverloadedWrongFalsely : Prop := loadOverloadedRow.holds Try.pinned (OpenSpec.ofChange loadOverloadedWrong)

/-- 'netcalculuslaw26.LoadAdds': WHATEVER THE INPUT: true; the input reads as it did. -/
def loadAddsSpec : ChangeSpec := { name := "loadAdds", fn := fun _ => fun
  | [d1, d2] => { results := [.lit (.bool true)], args := [d1, d2] }
  | _ => none }
def loadAddsRow : OpenClaim := { program := "ytnlmmjmcackgjaa", sum := "02e47881a4d0f841a4c6f3c9565f125b806a6cc34e458a28e300ce8fb19a9c33", func := "netcalculus/netcalculuslaw26.LoadAdds", spec := "loadAdds", unfollowed := true, recurses := true, apart := false }
def LoadAddsSaid : Prop := loadAddsRow.holds Try.pinned (OpenSpec.ofChange loadAddsSpec)

/-- ITS FALSE NEIGHBOUR: 'it returns false'. Refute it at one input. -/
def loadAddsWrong : ChangeSpec := { name := "loadAdds", fn := fun _ => fun
  | [d1, d2] => { results := [.lit (.bool false)], args := [d1, d2] }
  | _ => none }
def LoadAddsWrongFalsely : Prop := loadAddsRow.holds Try.pinned (OpenSpec.ofChange loadAddsWrong)

/- THE SECOND FORM. 'bulk': how many values and letters a reading holds, each counted each time it is reached (what is shared counts as often as it is met; a slice's spare places count too). A statement '..UptoSaid' is the law's where the arguments, and the package variables that the reading takes, are together of bulk at most 1048576: NARROWER than '..Said'. Prove '..Said' where nothing that the law and all that it calls make is longer than what came in: it says more and counts as full. Else prove '..UptoSaid'. A law counts once. -/
mutual
def uptoBulk {H : Type} : DataW H → Nat
  | .lit (.string bytes) => bytes.length + 1
  | .lit _ => 1
  | .nil => 1
  | .ptr d => uptoBulk d + 1
  | .slice elems spare => uptoBulkAll elems + uptoBulkAll spare + 1
  | .agg parts => uptoBulkAll parts + 1
  | .iface _ d => uptoBulk d + 1
  | .map entries => uptoBulkEntries entries + 1
  | .held _ => 1
def uptoBulkAll {H : Type} : List (DataW H) → Nat
  | [] => 0
  | d :: r => uptoBulk d + uptoBulkAll r
def uptoBulkEntries {H : Type} : List (Lit × DataW H) → Nat
  | [] => 0
  | x :: r => uptoBulkEntry x + uptoBulkEntries r
def uptoBulkEntry {H : Type} : Lit × DataW H → Nat
  | (.string bytes, d) => bytes.length + uptoBulk d + 1
  | (_, d) => uptoBulk d + 1
 end
def uptoSmall : (H : Type) → List (DataW H) → Bool := fun _ ds => decide (uptoBulkAll ds ≤ 1048576)
def OpenSpec.upto (s : _root_.Go.ChangeSpec) : _root_.Go.OpenSpec := { _root_.Go.OpenSpec.ofChange s with cond := some uptoSmall }

/-- 'netcalculuslaw25.TopologyReaches', WHERE WHAT IT READS IS OF BULK AT MOST 1048576: true; the input reads as it did. -/
def topologyReachesUptoRow : OpenClaim := { program := "ytnlmmjmcackgjaa", sum := "02e47881a4d0f841a4c6f3c9565f125b806a6cc34e458a28e300ce8fb19a9c33", func := "netcalculus/netcalculuslaw25.TopologyReaches", spec := "topologyReaches", unfollowed := true, recurses := true, apart := false, narrowed := true }
def TopologyReachesUptoSaid : Prop := topologyReachesUptoRow.holds Try.pinned (OpenSpec.upto topologyReachesSpec)

/-- 'netcalculuslaw25.TopologyExact', WHERE WHAT IT READS IS OF BULK AT MOST 1048576: true; the input reads as it did. -/
def topologyExactUptoRow : OpenClaim := { program := "ytnlmmjmcackgjaa", sum := "02e47881a4d0f841a4c6f3c9565f125b806a6cc34e458a28e300ce8fb19a9c33", func := "netcalculus/netcalculuslaw25.TopologyExact", spec := "topologyExact", unfollowed := true, recurses := true, apart := false, narrowed := true }
def TopologyExactUptoSaid : Prop := topologyExactUptoRow.holds Try.pinned (OpenSpec.upto topologyExactSpec)

/-- 'netcalculuslaw25.TopologyOrder', WHERE WHAT IT READS IS OF BULK AT MOST 1048576: true; the input reads as it did. -/
def topologyOrderUptoRow : OpenClaim := { program := "ytnlmmjmcackgjaa", sum := "02e47881a4d0f841a4c6f3c9565f125b806a6cc34e458a28e300ce8fb19a9c33", func := "netcalculus/netcalculuslaw25.TopologyOrder", spec := "topologyOrder", unfollowed := true, recurses := true, apart := false, narrowed := true }
def TopologyOrderUptoSaid : Prop := topologyOrderUptoRow.holds Try.pinned (OpenSpec.upto topologyOrderSpec)

/-- 'netcalculuslaw25.TopologyCut', WHERE WHAT IT READS IS OF BULK AT MOST 1048576: true; the input reads as it did. -/
def topologyCutUptoRow : OpenClaim := { program := "ytnlmmjmcackgjaa", sum := "02e47881a4d0f841a4c6f3c9565f125b806a6cc34e458a28e300ce8fb19a9c33", func := "netcalculus/netcalculuslaw25.TopologyCut", spec := "topologyCut", unfollowed := true, recurses := true, apart := false, narrowed := true }
def TopologyCutUptoSaid : Prop := topologyCutUptoRow.holds Try.pinned (OpenSpec.upto topologyCutSpec)

/-- 'netcalculuslaw25.TopologyLevels', WHERE WHAT IT READS IS OF BULK AT MOST 1048576: true; the input reads as it did. -/
def topologyLevelsUptoRow : OpenClaim := { program := "ytnlmmjmcackgjaa", sum := "02e47881a4d0f841a4c6f3c9565f125b806a6cc34e458a28e300ce8fb19a9c33", func := "netcalculus/netcalculuslaw25.TopologyLevels", spec := "topologyLevels", unfollowed := true, recurses := true, apart := false, narrowed := true }
def TopologyLevelsUptoSaid : Prop := topologyLevelsUptoRow.holds Try.pinned (OpenSpec.upto topologyLevelsSpec)

/-- 'netcalculuslaw25.TopologyFewer', WHERE WHAT IT READS IS OF BULK AT MOST 1048576: true; the input reads as it did. -/
def topologyFewerUptoRow : OpenClaim := { program := "ytnlmmjmcackgjaa", sum := "02e47881a4d0f841a4c6f3c9565f125b806a6cc34e458a28e300ce8fb19a9c33", func := "netcalculus/netcalculuslaw25.TopologyFewer", spec := "topologyFewer", unfollowed := true, recurses := true, apart := false, narrowed := true }
def TopologyFewerUptoSaid : Prop := topologyFewerUptoRow.holds Try.pinned (OpenSpec.upto topologyFewerSpec)

/-- 'netcalculuslaw26.LoadGrows', WHERE WHAT IT READS IS OF BULK AT MOST 1048576: true; the input reads as it did. -/
def loadGrowsUptoRow : OpenClaim := { program := "ytnlmmjmcackgjaa", sum := "02e47881a4d0f841a4c6f3c9565f125b806a6cc34e458a28e300ce8fb19a9c33", func := "netcalculus/netcalculuslaw26.LoadGrows", spec := "loadGrows", unfollowed := true, recurses := true, apart := false, narrowed := true }
def LoadGrowsUptoSaid : Prop := loadGrowsUptoRow.holds Try.pinned (OpenSpec.upto loadGrowsSpec)

/-- 'netcalculuslaw26.LoadOverloaded', WHERE WHAT IT READS IS OF BULK AT MOST 1048576: true; the input reads as it did. -/
def loadOverloadedUptoRow : OpenClaim := { program := "ytnlmmjmcackgjaa", sum := "02e47881a4d0f841a4c6f3c9565f125b806a6cc34e458a28e300ce8fb19a9c33", func := "netcalculus/netcalculuslaw26.LoadOverloaded", spec := "loadOverloaded", unfollowed := true, recurses := true, apart := false, narrowed := true }
def LoadOverloadedUptoSaid : Prop := loadOverloadedUptoRow.holds Try.pinned (OpenSpec.upto loadOverloadedSpec)

/-- 'netcalculuslaw26.LoadAdds', WHERE WHAT IT READS IS OF BULK AT MOST 1048576: true; the input reads as it did. -/
def loadAddsUptoRow : OpenClaim := { program := "ytnlmmjmcackgjaa", sum := "02e47881a4d0f841a4c6f3c9565f125b806a6cc34e458a28e300ce8fb19a9c33", func := "netcalculus/netcalculuslaw26.LoadAdds", spec := "loadAdds", unfollowed := true, recurses := true, apart := false, narrowed := true }
def LoadAddsUptoSaid : Prop := loadAddsUptoRow.holds Try.pinned (OpenSpec.upto loadAddsSpec)

end Rows
end Go.Proofs.Ytnlmmjmcackgjaa
