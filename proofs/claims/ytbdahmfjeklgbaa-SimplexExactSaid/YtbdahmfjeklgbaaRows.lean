/-
  No cell of these rows narrows 'for every input' (looked for: loops, veiled, ifaces, maps, wideKeys, modest, calm, conditions, laid).
  DERIVED. THE GIVEN ROWS OF THIS SEAT. 4 by the template 'for every input the law returns true; each argument reads behind the call as it read before'; 0 by the template 'total and deterministic' (their statements: YtbdahmfjeklgbaaTotals.lean).
  GIVEN WITH THE SEED: the statements are not yours to turn. If you find one false, say at which input.
  Laid BY PROGRAM, IN A SANDBOX (cutbox-rows.mjs): the forced cells as the released guide's own fill.sh prints them over the translation 20033d929ec208dc… (all of the seat's roots in one cut). By AI agents, Wed Nov 11 2026. No macro, syntax, notation, axiom, sorry.
-/
import Derived.Test.YtbdahmfjeklgbaaChecked
import GoSem.Claim
import GoSem.ClaimJoined
import GoSem.ClaimMapViews
import Derived.JoinedTies
import Derived.KernelRfl
namespace Go.Proofs.Ytbdahmfjeklgbaa
/- THE CELL 'sum', in the pinned program and in every row, IS THE sha256 OF THE DUMP (.gsa) THAT YtbdahmfjeklgbaaProg.lean LOADS. Nothing in Lean hashes anything: it is a label: what it is worth is what the hold of that sum in a sandbox is worth. -/
noncomputable def Try.pinned : Pinned := { name := "ytbdahmfjeklgbaa", sum := "20033d929ec208dc0c784c0cc0c002483081e2eda595fac9946b73eee1f4811e", checked := Try.checked }
namespace Rows
def none {H : Type} : Left H := { results := [], args := [] }

/-- 'netcalculuslaw32.SimplexScales': WHATEVER THE INPUT: true; the input reads as it did. -/
def simplexScalesSpec : ChangeSpec := { name := "simplexScales", fn := fun _ => fun
  | [d1, d2] => { results := [.lit (.bool true)], args := [d1, d2] }
  | _ => none }
def simplexScalesRow : OpenClaim := { program := "ytbdahmfjeklgbaa", sum := "20033d929ec208dc0c784c0cc0c002483081e2eda595fac9946b73eee1f4811e", func := "netcalculus/netcalculuslaw32.SimplexScales", spec := "simplexScales", apart := false }
def SimplexScalesSaid : Prop := simplexScalesRow.holds Try.pinned (OpenSpec.ofChange simplexScalesSpec)

/-- ITS FALSE NEIGHBOUR: 'it returns false'. Refute it at one input. -/
def simplexScalesWrong : ChangeSpec := { name := "simplexScales", fn := fun _ => fun
  | [d1, d2] => { results := [.lit (.bool false)], args := [d1, d2] }
  | _ => none }
def SimplexScalesWrongFalsely : Prop := simplexScalesRow.holds Try.pinned (OpenSpec.ofChange simplexScalesWrong)

/-- 'netcalculuslaw32.SimplexCorners': WHATEVER THE INPUT: true; the input reads as it did. -/
def simplexCornersSpec : ChangeSpec := { name := "simplexCorners", fn := fun _ => fun
  | [d] => { results := [.lit (.bool true)], args := [d] }
  | _ => none }
def simplexCornersRow : OpenClaim := { program := "ytbdahmfjeklgbaa", sum := "20033d929ec208dc0c784c0cc0c002483081e2eda595fac9946b73eee1f4811e", func := "netcalculus/netcalculuslaw32.SimplexCorners", spec := "simplexCorners", apart := false }
def SimplexCornersSaid : Prop := simplexCornersRow.holds Try.pinned (OpenSpec.ofChange simplexCornersSpec)

/-- ITS FALSE NEIGHBOUR: 'it returns false'. Refute it at one input. -/
def simplexCornersWrong : ChangeSpec := { name := "simplexCorners", fn := fun _ => fun
  | [d] => { results := [.lit (.bool false)], args := [d] }
  | _ => none }
def SimplexCornersWrongFalsely : Prop := simplexCornersRow.holds Try.pinned (OpenSpec.ofChange simplexCornersWrong)

/-- 'netcalculuslaw32.SimplexZero': WHATEVER THE INPUT: true; the input reads as it did. -/
def simplexZeroSpec : ChangeSpec := { name := "simplexZero", fn := fun _ => fun
  | [d] => { results := [.lit (.bool true)], args := [d] }
  | _ => none }
def simplexZeroRow : OpenClaim := { program := "ytbdahmfjeklgbaa", sum := "20033d929ec208dc0c784c0cc0c002483081e2eda595fac9946b73eee1f4811e", func := "netcalculus/netcalculuslaw32.SimplexZero", spec := "simplexZero", apart := false }
def SimplexZeroSaid : Prop := simplexZeroRow.holds Try.pinned (OpenSpec.ofChange simplexZeroSpec)

/-- ITS FALSE NEIGHBOUR: 'it returns false'. Refute it at one input. -/
def simplexZeroWrong : ChangeSpec := { name := "simplexZero", fn := fun _ => fun
  | [d] => { results := [.lit (.bool false)], args := [d] }
  | _ => none }
def SimplexZeroWrongFalsely : Prop := simplexZeroRow.holds Try.pinned (OpenSpec.ofChange simplexZeroWrong)

/-- 'netcalculuslaw32.SimplexExact': WHATEVER THE INPUT: true; the input reads as it did. -/
def simplexExactSpec : ChangeSpec := { name := "simplexExact", fn := fun _ => fun
  | [d1, d2, d3, d4] => { results := [.lit (.bool true)], args := [d1, d2, d3, d4] }
  | _ => none }
def simplexExactRow : OpenClaim := { program := "ytbdahmfjeklgbaa", sum := "20033d929ec208dc0c784c0cc0c002483081e2eda595fac9946b73eee1f4811e", func := "netcalculus/netcalculuslaw32.SimplexExact", spec := "simplexExact", apart := false }
def SimplexExactSaid : Prop := simplexExactRow.holds Try.pinned (OpenSpec.ofChange simplexExactSpec)

/-- ITS FALSE NEIGHBOUR: 'it returns false'. Refute it at one input. -/
def simplexExactWrong : ChangeSpec := { name := "simplexExact", fn := fun _ => fun
  | [d1, d2, d3, d4] => { results := [.lit (.bool false)], args := [d1, d2, d3, d4] }
  | _ => none }
def SimplexExactWrongFalsely : Prop := simplexExactRow.holds Try.pinned (OpenSpec.ofChange simplexExactWrong)

/- THE SECOND FORM. 'bulk': how many values and letters a reading holds, each counted each time it is reached (what is shared counts as often as it is met; a slice's spare places count too). A statement '..UptoSaid' is the law's where the arguments, and the package variables that the reading takes, are together of bulk at most 1048576: NARROWER than '..Said'. Prove '..Said' where nothing that the law and all that it calls make is longer than what came in: it says more and counts as full. Else prove '..UptoSaid'. A law counts once. -/
mutual
def uptoBulk {H : Type} : DataW H → Nat
  | .lit (.string bytes) => bytes.length + 1
  | .lit _ => 1
  | .nil => 1
  | .ptr d => uptoBulk d + 1
  | .slice elems spare => uptoBulkAll elems + uptoBulkAll spare + 1
  | .agg parts => uptoBulkAll parts + 1
  | .iface _ d => uptoBulk d + 1
  | .map entries => uptoBulkEntries entries + 1
  | .held _ => 1
def uptoBulkAll {H : Type} : List (DataW H) → Nat
  | [] => 0
  | d :: r => uptoBulk d + uptoBulkAll r
def uptoBulkEntries {H : Type} : List (Lit × DataW H) → Nat
  | [] => 0
  | x :: r => uptoBulkEntry x + uptoBulkEntries r
def uptoBulkEntry {H : Type} : Lit × DataW H → Nat
  | (.string bytes, d) => bytes.length + uptoBulk d + 1
  | (_, d) => uptoBulk d + 1
 end
def uptoSmall : (H : Type) → List (DataW H) → Bool := fun _ ds => decide (uptoBulkAll ds ≤ 1048576)
def OpenSpec.upto (s : _root_.Go.ChangeSpec) : _root_.Go.OpenSpec := { _root_.Go.OpenSpec.ofChange s with cond := some uptoSmall }

/-- 'netcalculuslaw32.SimplexScales', WHERE WHAT IT READS IS OF BULK AT MOST 1048576: true; the input reads as it did. -/
def simplexScalesUptoRow : OpenClaim := { program := "ytbdahmfjeklgbaa", sum := "20033d929ec208dc0c784c0cc0c002483081e2eda595fac9946b73eee1f4811e", func := "netcalculus/netcalculuslaw32.SimplexScales", spec := "simplexScales", apart := false, narrowed := true }
def SimplexScalesUptoSaid : Prop := simplexScalesUptoRow.holds Try.pinned (OpenSpec.upto simplexScalesSpec)

/-- 'netcalculuslaw32.SimplexCorners', WHERE WHAT IT READS IS OF BULK AT MOST 1048576: true; the input reads as it did. -/
def simplexCornersUptoRow : OpenClaim := { program := "ytbdahmfjeklgbaa", sum := "20033d929ec208dc0c784c0cc0c002483081e2eda595fac9946b73eee1f4811e", func := "netcalculus/netcalculuslaw32.SimplexCorners", spec := "simplexCorners", apart := false, narrowed := true }
def SimplexCornersUptoSaid : Prop := simplexCornersUptoRow.holds Try.pinned (OpenSpec.upto simplexCornersSpec)

/-- 'netcalculuslaw32.SimplexZero', WHERE WHAT IT READS IS OF BULK AT MOST 1048576: true; the input reads as it did. -/
def simplexZeroUptoRow : OpenClaim := { program := "ytbdahmfjeklgbaa", sum := "20033d929ec208dc0c784c0cc0c002483081e2eda595fac9946b73eee1f4811e", func := "netcalculus/netcalculuslaw32.SimplexZero", spec := "simplexZero", apart := false, narrowed := true }
def SimplexZeroUptoSaid : Prop := simplexZeroUptoRow.holds Try.pinned (OpenSpec.upto simplexZeroSpec)

/-- 'netcalculuslaw32.SimplexExact', WHERE WHAT IT READS IS OF BULK AT MOST 1048576: true; the input reads as it did. -/
def simplexExactUptoRow : OpenClaim := { program := "ytbdahmfjeklgbaa", sum := "20033d929ec208dc0c784c0cc0c002483081e2eda595fac9946b73eee1f4811e", func := "netcalculus/netcalculuslaw32.SimplexExact", spec := "simplexExact", apart := false, narrowed := true }
def SimplexExactUptoSaid : Prop := simplexExactUptoRow.holds Try.pinned (OpenSpec.upto simplexExactSpec)

end Rows
end Go.Proofs.Ytbdahmfjeklgbaa
