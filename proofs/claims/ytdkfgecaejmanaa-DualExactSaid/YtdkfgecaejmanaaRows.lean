/-
  No cell of these rows narrows 'for every input' (looked for: loops, veiled, ifaces, maps, wideKeys, modest, calm, conditions, laid).
  DERIVED. THE GIVEN ROWS OF THIS SEAT. 5 by the template 'for every input the law returns true; each argument reads behind the call as it read before'; 0 by the template 'total and deterministic' (their statements: YtdkfgecaejmanaaTotals.lean).
  GIVEN WITH THE SEED: the statements are not yours to turn. If you find one false, say at which input.
  Laid BY PROGRAM, IN A SANDBOX (cutbox-rows.mjs): the forced cells as the released guide's own fill.sh prints them over the translation 258959822b1da169… (all of the seat's roots in one cut). By AI agents, Wed Nov 11 2026. No macro, syntax, notation, axiom, sorry.
-/
import Derived.Test.YtdkfgecaejmanaaChecked
import GoSem.Claim
import GoSem.ClaimJoined
import GoSem.ClaimMapViews
import Derived.JoinedTies
import Derived.KernelRfl
namespace Go.Proofs.Ytdkfgecaejmanaa
/- THE CELL 'sum', in the pinned program and in every row, IS THE sha256 OF THE DUMP (.gsa) THAT YtdkfgecaejmanaaProg.lean LOADS. Nothing in Lean hashes anything: it is a label: what it is worth is what the hold of that sum in a sandbox is worth. -/
noncomputable def Try.pinned : Pinned := { name := "ytdkfgecaejmanaa", sum := "258959822b1da169cd2eb91f44ce9a93fa7b25417b3d8943db2143766d79c28f", checked := Try.checked }
namespace Rows
def none {H : Type} : Left H := { results := [], args := [] }

/-- 'netcalculuslaw33.DualExact': WHATEVER THE INPUT: true; the input reads as it did. -/
def dualExactSpec : ChangeSpec := { name := "dualExact", fn := fun _ => fun
  | [d1, d2, d3, d4, d5] => { results := [.lit (.bool true)], args := [d1, d2, d3, d4, d5] }
  | _ => none }
def dualExactRow : OpenClaim := { program := "ytdkfgecaejmanaa", sum := "258959822b1da169cd2eb91f44ce9a93fa7b25417b3d8943db2143766d79c28f", func := "netcalculus/netcalculuslaw33.DualExact", spec := "dualExact", unfollowed := true, recurses := true, apart := false }
def DualExactSaid : Prop := dualExactRow.holds Try.pinned (OpenSpec.ofChange dualExactSpec)

/-- ITS FALSE NEIGHBOUR: 'it returns false'. Refute it at one input. -/
def dualExactWrong : ChangeSpec := { name := "dualExact", fn := fun _ => fun
  | [d1, d2, d3, d4, d5] => { results := [.lit (.bool false)], args := [d1, d2, d3, d4, d5] }
  | _ => none }
def DualExactWrongFalsely : Prop := dualExactRow.holds Try.pinned (OpenSpec.ofChange dualExactWrong)

/-- 'netcalculuslaw33.DualWeak': WHATEVER THE INPUT: true; the input reads as it did. -/
def dualWeakSpec : ChangeSpec := { name := "dualWeak", fn := fun _ => fun
  | [d] => { results := [.lit (.bool true)], args := [d] }
  | _ => none }
def dualWeakRow : OpenClaim := { program := "ytdkfgecaejmanaa", sum := "258959822b1da169cd2eb91f44ce9a93fa7b25417b3d8943db2143766d79c28f", func := "netcalculus/netcalculuslaw33.DualWeak", spec := "dualWeak", unfollowed := true, recurses := true, apart := false }
def DualWeakSaid : Prop := dualWeakRow.holds Try.pinned (OpenSpec.ofChange dualWeakSpec)

/-- ITS FALSE NEIGHBOUR: 'it returns false'. Refute it at one input. -/
def dualWeakWrong : ChangeSpec := { name := "dualWeak", fn := fun _ => fun
  | [d] => { results := [.lit (.bool false)], args := [d] }
  | _ => none }
def DualWeakWrongFalsely : Prop := dualWeakRow.holds Try.pinned (OpenSpec.ofChange dualWeakWrong)

/-- 'netcalculuslaw33.DualDecides': WHATEVER THE INPUT: true; the input reads as it did. -/
def dualDecidesSpec : ChangeSpec := { name := "dualDecides", fn := fun _ => fun
  | [d] => { results := [.lit (.bool true)], args := [d] }
  | _ => none }
def dualDecidesRow : OpenClaim := { program := "ytdkfgecaejmanaa", sum := "258959822b1da169cd2eb91f44ce9a93fa7b25417b3d8943db2143766d79c28f", func := "netcalculus/netcalculuslaw33.DualDecides", spec := "dualDecides", unfollowed := true, recurses := true, apart := false }
def DualDecidesSaid : Prop := dualDecidesRow.holds Try.pinned (OpenSpec.ofChange dualDecidesSpec)

/-- ITS FALSE NEIGHBOUR: 'it returns false'. Refute it at one input. -/
def dualDecidesWrong : ChangeSpec := { name := "dualDecides", fn := fun _ => fun
  | [d] => { results := [.lit (.bool false)], args := [d] }
  | _ => none }
def DualDecidesWrongFalsely : Prop := dualDecidesRow.holds Try.pinned (OpenSpec.ofChange dualDecidesWrong)

/-- 'netcalculuslaw33.DualRays': WHATEVER THE INPUT: true; the input reads as it did. -/
def dualRaysSpec : ChangeSpec := { name := "dualRays", fn := fun _ => fun
  | [d1, d2] => { results := [.lit (.bool true)], args := [d1, d2] }
  | _ => none }
def dualRaysRow : OpenClaim := { program := "ytdkfgecaejmanaa", sum := "258959822b1da169cd2eb91f44ce9a93fa7b25417b3d8943db2143766d79c28f", func := "netcalculus/netcalculuslaw33.DualRays", spec := "dualRays", unfollowed := true, recurses := true, apart := false }
def DualRaysSaid : Prop := dualRaysRow.holds Try.pinned (OpenSpec.ofChange dualRaysSpec)

/-- ITS FALSE NEIGHBOUR: 'it returns false'. Refute it at one input. -/
def dualRaysWrong : ChangeSpec := { name := "dualRays", fn := fun _ => fun
  | [d1, d2] => { results := [.lit (.bool false)], args := [d1, d2] }
  | _ => none }
def DualRaysWrongFalsely : Prop := dualRaysRow.holds Try.pinned (OpenSpec.ofChange dualRaysWrong)

/-- 'netcalculuslaw33.DualScales': WHATEVER THE INPUT: true; the input reads as it did. -/
def dualScalesSpec : ChangeSpec := { name := "dualScales", fn := fun _ => fun
  | [d] => { results := [.lit (.bool true)], args := [d] }
  | _ => none }
def dualScalesRow : OpenClaim := { program := "ytdkfgecaejmanaa", sum := "258959822b1da169cd2eb91f44ce9a93fa7b25417b3d8943db2143766d79c28f", func := "netcalculus/netcalculuslaw33.DualScales", spec := "dualScales", unfollowed := true, recurses := true, apart := false }
def DualScalesSaid : Prop := dualScalesRow.holds Try.pinned (OpenSpec.ofChange dualScalesSpec)

/-- ITS FALSE NEIGHBOUR: 'it returns false'. Refute it at one input. -/
def dualScalesWrong : ChangeSpec := { name := "dualScales", fn := fun _ => fun
  | [d] => { results := [.lit (.bool false)], args := [d] }
  | _ => none }
def DualScalesWrongFalsely : Prop := dualScalesRow.holds Try.pinned (OpenSpec.ofChange dualScalesWrong)

/- THE SECOND FORM. 'bulk': how many values and letters a reading holds, each counted each time it is reached (what is shared counts as often as it is met; a slice's spare places count too). A statement '..UptoSaid' is the law's where the arguments, and the package variables that the reading takes, are together of bulk at most 1048576: NARROWER than '..Said'. Prove '..Said' where nothing that the law and all that it calls make is longer than what came in: it says more and counts as full. Else prove '..UptoSaid'. A law counts once. -/
mutual
def uptoBulk {H : Type} : DataW H → Nat
  | .lit (.string bytes) => bytes.length + 1
  | .lit _ => 1
  | .nil => 1
  | .ptr d => uptoBulk d + 1
  | .slice elems spare => uptoBulkAll elems + uptoBulkAll spare + 1
  | .agg parts => uptoBulkAll parts + 1
  | .iface _ d => uptoBulk d + 1
  | .map entries => uptoBulkEntries entries + 1
  | .held _ => 1
def uptoBulkAll {H : Type} : List (DataW H) → Nat
  | [] => 0
  | d :: r => uptoBulk d + uptoBulkAll r
def uptoBulkEntries {H : Type} : List (Lit × DataW H) → Nat
  | [] => 0
  | x :: r => uptoBulkEntry x + uptoBulkEntries r
def uptoBulkEntry {H : Type} : Lit × DataW H → Nat
  | (.string bytes, d) => bytes.length + uptoBulk d + 1
  | (_, d) => uptoBulk d + 1
 end
def uptoSmall : (H : Type) → List (DataW H) → Bool := fun _ ds => decide (uptoBulkAll ds ≤ 1048576)
def OpenSpec.upto (s : _root_.Go.ChangeSpec) : _root_.Go.OpenSpec := { _root_.Go.OpenSpec.ofChange s with cond := some uptoSmall }

/-- 'netcalculuslaw33.DualExact', WHERE WHAT IT READS IS OF BULK AT MOST 1048576: true; the input reads as it did. -/
def dualExactUptoRow : OpenClaim := { program := "ytdkfgecaejmanaa", sum := "258959822b1da169cd2eb91f44ce9a93fa7b25417b3d8943db2143766d79c28f", func := "netcalculus/netcalculuslaw33.DualExact", spec := "dualExact", unfollowed := true, recurses := true, apart := false, narrowed := true }
def DualExactUptoSaid : Prop := dualExactUptoRow.holds Try.pinned (OpenSpec.upto dualExactSpec)

/-- 'netcalculuslaw33.DualWeak', WHERE WHAT IT READS IS OF BULK AT MOST 1048576: true; the input reads as it did. -/
def dualWeakUptoRow : OpenClaim := { program := "ytdkfgecaejmanaa", sum := "258959822b1da169cd2eb91f44ce9a93fa7b25417b3d8943db2143766d79c28f", func := "netcalculus/netcalculuslaw33.DualWeak", spec := "dualWeak", unfollowed := true, recurses := true, apart := false, narrowed := true }
def DualWeakUptoSaid : Prop := dualWeakUptoRow.holds Try.pinned (OpenSpec.upto dualWeakSpec)

/-- 'netcalculuslaw33.DualDecides', WHERE WHAT IT READS IS OF BULK AT MOST 1048576: true; the input reads as it did. -/
def dualDecidesUptoRow : OpenClaim := { program := "ytdkfgecaejmanaa", sum := "258959822b1da169cd2eb91f44ce9a93fa7b25417b3d8943db2143766d79c28f", func := "netcalculus/netcalculuslaw33.DualDecides", spec := "dualDecides", unfollowed := true, recurses := true, apart := false, narrowed := true }
def DualDecidesUptoSaid : Prop := dualDecidesUptoRow.holds Try.pinned (OpenSpec.upto dualDecidesSpec)

/-- 'netcalculuslaw33.DualRays', WHERE WHAT IT READS IS OF BULK AT MOST 1048576: true; the input reads as it did. -/
def dualRaysUptoRow : OpenClaim := { program := "ytdkfgecaejmanaa", sum := "258959822b1da169cd2eb91f44ce9a93fa7b25417b3d8943db2143766d79c28f", func := "netcalculus/netcalculuslaw33.DualRays", spec := "dualRays", unfollowed := true, recurses := true, apart := false, narrowed := true }
def DualRaysUptoSaid : Prop := dualRaysUptoRow.holds Try.pinned (OpenSpec.upto dualRaysSpec)

/-- 'netcalculuslaw33.DualScales', WHERE WHAT IT READS IS OF BULK AT MOST 1048576: true; the input reads as it did. -/
def dualScalesUptoRow : OpenClaim := { program := "ytdkfgecaejmanaa", sum := "258959822b1da169cd2eb91f44ce9a93fa7b25417b3d8943db2143766d79c28f", func := "netcalculus/netcalculuslaw33.DualScales", spec := "dualScales", unfollowed := true, recurses := true, apart := false, narrowed := true }
def DualScalesUptoSaid : Prop := dualScalesUptoRow.holds Try.pinned (OpenSpec.upto dualScalesSpec)

end Rows
end Go.Proofs.Ytdkfgecaejmanaa
