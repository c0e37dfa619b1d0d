/-
  No cell of these rows narrows 'for every input' (looked for: loops, veiled, ifaces, maps, wideKeys, modest, calm, conditions, laid).
  DERIVED. THE GIVEN ROWS OF THIS SEAT. 4 by the template 'for every input the law returns true; each argument reads behind the call as it read before'; 0 by the template 'total and deterministic' (their statements: YtjhmjiimpmmnhaaGreatTotals.lean).
  GIVEN WITH THE SEED: the statements are not yours to turn. If you find one false, say at which input.
  Laid BY PROGRAM, IN A SANDBOX (cutbox-rows.mjs): the forced cells as the released guide's own fill.sh prints them over the translation 429412d97f2256fc… (all of the seat's roots in one cut). By AI agents, Wed Nov 11 2026. No macro, syntax, notation, axiom, sorry.
-/
import Derived.Test.YtjhmjiimpmmnhaaGreatChecked
import GoSem.Claim
import GoSem.ClaimJoined
import GoSem.ClaimMapViews
import Derived.JoinedTies
import Derived.KernelRfl
namespace Go.Proofs.YtjhmjiimpmmnhaaGreat
/- THE CELL 'sum', in the pinned program and in every row, IS THE sha256 OF THE DUMP (.gsa) THAT YtjhmjiimpmmnhaaGreatProg.lean LOADS. Nothing in Lean hashes anything: it is a label: what it is worth is what the hold of that sum in a sandbox is worth. -/
noncomputable def Tryz.pinned : Pinned := { name := "ytjhmjiimpmmnhaagreat", sum := "429412d97f2256fc6b4bdf54a8f85e38f3f6d680e11dbc662952cc9fd1c1009e", checked := Tryz.checked }
namespace Rows
def none {H : Type} : Left H := { results := [], args := [] }

/-- 'netcalculuslaw37.AdversaryExact': WHATEVER THE INPUT: true; the input reads as it did. -/
def adversaryExactSpec : ChangeSpec := { name := "adversaryExact", fn := fun _ => fun
  | [d1, d2, d3, d4, d5, d6, d7, d8, d9, d10] => { results := [.lit (.bool true)], args := [d1, d2, d3, d4, d5, d6, d7, d8, d9, d10] }
  | _ => none }
def adversaryExactRow : OpenClaim := { program := "ytjhmjiimpmmnhaagreat", sum := "429412d97f2256fc6b4bdf54a8f85e38f3f6d680e11dbc662952cc9fd1c1009e", func := "netcalculus/netcalculuslaw37.AdversaryExact", spec := "adversaryExact", unfollowed := true, recurses := true, apart := false }
def AdversaryExactSaid : Prop := adversaryExactRow.holds Tryz.pinned (OpenSpec.ofChange adversaryExactSpec)

/-- ITS FALSE NEIGHBOUR: 'it returns false'. Refute it at one input. -/
def adversaryExactWrong : ChangeSpec := { name := "adversaryExact", fn := fun _ => fun
  | [d1, d2, d3, d4, d5, d6, d7, d8, d9, d10] => { results := [.lit (.bool false)], args := [d1, d2, d3, d4, d5, d6, d7, d8, d9, d10] }
  | _ => none }
def AdversaryExactWrongFalsely : Prop := adversaryExactRow.holds Tryz.pinned (OpenSpec.ofChange adversaryExactWrong)

/-- 'netcalculuslaw37.AdversaryGreedy': WHATEVER THE INPUT: true; the input reads as it did. -/
def adversaryGreedySpec : ChangeSpec := { name := "adversaryGreedy", fn := fun _ => fun
  | [d1, d2] => { results := [.lit (.bool true)], args := [d1, d2] }
  | _ => none }
def adversaryGreedyRow : OpenClaim := { program := "ytjhmjiimpmmnhaagreat", sum := "429412d97f2256fc6b4bdf54a8f85e38f3f6d680e11dbc662952cc9fd1c1009e", func := "netcalculus/netcalculuslaw37.AdversaryGreedy", spec := "adversaryGreedy", unfollowed := true, recurses := true, apart := false }
def AdversaryGreedySaid : Prop := adversaryGreedyRow.holds Tryz.pinned (OpenSpec.ofChange adversaryGreedySpec)

/-- ITS FALSE NEIGHBOUR: 'it returns false'. Refute it at one input. -/
def adversaryGreedyWrong : ChangeSpec := { name := "adversaryGreedy", fn := fun _ => fun
  | [d1, d2] => { results := [.lit (.bool false)], args := [d1, d2] }
  | _ => none }
def AdversaryGreedyWrongFalsely : Prop := adversaryGreedyRow.holds Tryz.pinned (OpenSpec.ofChange adversaryGreedyWrong)

/-- 'netcalculuslaw37.AdversaryTight': WHATEVER THE INPUT: true; the input reads as it did. -/
def adversaryTightSpec : ChangeSpec := { name := "adversaryTight", fn := fun _ => fun
  | [d1, d2, d3] => { results := [.lit (.bool true)], args := [d1, d2, d3] }
  | _ => none }
def adversaryTightRow : OpenClaim := { program := "ytjhmjiimpmmnhaagreat", sum := "429412d97f2256fc6b4bdf54a8f85e38f3f6d680e11dbc662952cc9fd1c1009e", func := "netcalculus/netcalculuslaw37.AdversaryTight", spec := "adversaryTight", unfollowed := true, recurses := true, apart := false }
def AdversaryTightSaid : Prop := adversaryTightRow.holds Tryz.pinned (OpenSpec.ofChange adversaryTightSpec)

/-- ITS FALSE NEIGHBOUR: 'it returns false'. Refute it at one input. -/
def adversaryTightWrong : ChangeSpec := { name := "adversaryTight", fn := fun _ => fun
  | [d1, d2, d3] => { results := [.lit (.bool false)], args := [d1, d2, d3] }
  | _ => none }
def AdversaryTightWrongFalsely : Prop := adversaryTightRow.holds Tryz.pinned (OpenSpec.ofChange adversaryTightWrong)

/-- 'netcalculuslaw37.AdversarySooner': WHATEVER THE INPUT: true; the input reads as it did. -/
def adversarySoonerSpec : ChangeSpec := { name := "adversarySooner", fn := fun _ => fun
  | [d1, d2] => { results := [.lit (.bool true)], args := [d1, d2] }
  | _ => none }
def adversarySoonerRow : OpenClaim := { program := "ytjhmjiimpmmnhaagreat", sum := "429412d97f2256fc6b4bdf54a8f85e38f3f6d680e11dbc662952cc9fd1c1009e", func := "netcalculus/netcalculuslaw37.AdversarySooner", spec := "adversarySooner", unfollowed := true, recurses := true, apart := false }
def AdversarySoonerSaid : Prop := adversarySoonerRow.holds Tryz.pinned (OpenSpec.ofChange adversarySoonerSpec)

/-- ITS FALSE NEIGHBOUR: 'it returns false'. Refute it at one input. -/
def adversarySoonerWrong : ChangeSpec := { name := "adversarySooner", fn := fun _ => fun
  | [d1, d2] => { results := [.lit (.bool false)], args := [d1, d2] }
  | _ => none }
def AdversarySoonerWrongFalsely : Prop := adversarySoonerRow.holds Tryz.pinned (OpenSpec.ofChange adversarySoonerWrong)

/- THE SECOND FORM. 'bulk': how many values and letters a reading holds, each counted each time it is reached (what is shared counts as often as it is met; a slice's spare places count too). A statement '..UptoSaid' is the law's where the arguments, and the package variables that the reading takes, are together of bulk at most 1048576: NARROWER than '..Said'. Prove '..Said' where nothing that the law and all that it calls make is longer than what came in: it says more and counts as full. Else prove '..UptoSaid'. A law counts once. -/
mutual
def uptoBulk {H : Type} : DataW H → Nat
  | .lit (.string bytes) => bytes.length + 1
  | .lit _ => 1
  | .nil => 1
  | .ptr d => uptoBulk d + 1
  | .slice elems spare => uptoBulkAll elems + uptoBulkAll spare + 1
  | .agg parts => uptoBulkAll parts + 1
  | .iface _ d => uptoBulk d + 1
  | .map entries => uptoBulkEntries entries + 1
  | .held _ => 1
def uptoBulkAll {H : Type} : List (DataW H) → Nat
  | [] => 0
  | d :: r => uptoBulk d + uptoBulkAll r
def uptoBulkEntries {H : Type} : List (Lit × DataW H) → Nat
  | [] => 0
  | x :: r => uptoBulkEntry x + uptoBulkEntries r
def uptoBulkEntry {H : Type} : Lit × DataW H → Nat
  | (.string bytes, d) => bytes.length + uptoBulk d + 1
  | (_, d) => uptoBulk d + 1
 end
def uptoSmall : (H : Type) → List (DataW H) → Bool := fun _ ds => decide (uptoBulkAll ds ≤ 1048576)
def OpenSpec.upto (s : _root_.Go.ChangeSpec) : _root_.Go.OpenSpec := { _root_.Go.OpenSpec.ofChange s with cond := some uptoSmall }

/-- 'netcalculuslaw37.AdversaryExact', WHERE WHAT IT READS IS OF BULK AT MOST 1048576: true; the input reads as it did. -/
def adversaryExactUptoRow : OpenClaim := { program := "ytjhmjiimpmmnhaagreat", sum := "429412d97f2256fc6b4bdf54a8f85e38f3f6d680e11dbc662952cc9fd1c1009e", func := "netcalculus/netcalculuslaw37.AdversaryExact", spec := "adversaryExact", unfollowed := true, recurses := true, apart := false, narrowed := true }
def AdversaryExactUptoSaid : Prop := adversaryExactUptoRow.holds Tryz.pinned (OpenSpec.upto adversaryExactSpec)

/-- 'netcalculuslaw37.AdversaryGreedy', WHERE WHAT IT READS IS OF BULK AT MOST 1048576: true; the input reads as it did. -/
def adversaryGreedyUptoRow : OpenClaim := { program := "ytjhmjiimpmmnhaagreat", sum := "429412d97f2256fc6b4bdf54a8f85e38f3f6d680e11dbc662952cc9fd1c1009e", func := "netcalculus/netcalculuslaw37.AdversaryGreedy", spec := "adversaryGreedy", unfollowed := true, recurses := true, apart := false, narrowed := true }
def AdversaryGreedyUptoSaid : Prop := adversaryGreedyUptoRow.holds Tryz.pinned (OpenSpec.upto adversaryGreedySpec)

/-- 'netcalculuslaw37.AdversaryTight', WHERE WHAT IT READS IS OF BULK AT MOST 1048576: true; the input reads as it did. -/
def adversaryTightUptoRow : OpenClaim := { program := "ytjhmjiimpmmnhaagreat", sum := "429412d97f2256fc6b4bdf54a8f85e38f3f6d680e11dbc662952cc9fd1c1009e", func := "netcalculus/netcalculuslaw37.AdversaryTight", spec := "adversaryTight", unfollowed := true, recurses := true, apart := false, narrowed := true }
def AdversaryTightUptoSaid : Prop := adversaryTightUptoRow.holds Tryz.pinned (OpenSpec.upto adversaryTightSpec)

/-- 'netcalculuslaw37.AdversarySooner', WHERE WHAT IT READS IS OF BULK AT MOST 1048576: true; the input reads as it did. -/
def adversarySoonerUptoRow : OpenClaim := { program := "ytjhmjiimpmmnhaagreat", sum := "429412d97f2256fc6b4bdf54a8f85e38f3f6d680e11dbc662952cc9fd1c1009e", func := "netcalculus/netcalculuslaw37.AdversarySooner", spec := "adversarySooner", unfollowed := true, recurses := true, apart := false, narrowed := true }
def AdversarySoonerUptoSaid : Prop := adversarySoonerUptoRow.holds Tryz.pinned (OpenSpec.upto adversarySoonerSpec)

end Rows
end Go.Proofs.YtjhmjiimpmmnhaaGreat
