/-
  No cell of these rows narrows 'for every input' (looked for: loops, veiled, ifaces, maps, wideKeys, modest, calm, conditions, laid).
  DERIVED. THE GIVEN ROWS OF THIS SEAT. 6 by the template 'for every input the law returns true; each argument reads behind the call as it read before'; 0 by the template 'total and deterministic' (their statements: YthmkmojlnfkfjaaTotals.lean).
  GIVEN WITH THE SEED: the statements are not yours to turn. If you find one false, say at which input.
  Laid BY PROGRAM, IN A SANDBOX (cutbox-rows.mjs): the forced cells as the released guide's own fill.sh prints them over the translation b8b7ff6c0f3bf33a… (all of the seat's roots in one cut). By AI agents, Wed Nov 11 2026. No macro, syntax, notation, axiom, sorry.
-/
import Derived.Test.YthmkmojlnfkfjaaChecked
import GoSem.Claim
import GoSem.ClaimJoined
import GoSem.ClaimMapViews
import Derived.JoinedTies
import Derived.KernelRfl
namespace Go.Proofs.Ythmkmojlnfkfjaa
/- THE CELL 'sum', in the pinned program and in every row, IS THE sha256 OF THE DUMP (.gsa) THAT YthmkmojlnfkfjaaProg.lean LOADS. Nothing in Lean hashes anything: it is a label: what it is worth is what the hold of that sum in a sandbox is worth. -/
noncomputable def Try.pinned : Pinned := { name := "ythmkmojlnfkfjaa", sum := "b8b7ff6c0f3bf33ad4285caa9f5171dce18ba86472a01835eee9b405b920d18d", checked := Try.checked }
namespace Rows
def none {H : Type} : Left H := { results := [], args := [] }

/-- 'rubricatorlaw10.FreedSpreads': WHATEVER THE INPUT: true; the input reads as it did. -/
def freedSpreadsSpec : ChangeSpec := { name := "freedSpreads", fn := fun _ => fun
  | [d1, d2, d3] => { results := [.lit (.bool true)], args := [d1, d2, d3] }
  | _ => none }
def freedSpreadsRow : OpenClaim := { program := "ythmkmojlnfkfjaa", sum := "b8b7ff6c0f3bf33ad4285caa9f5171dce18ba86472a01835eee9b405b920d18d", func := "rubricator/rubricatorlaw10.FreedSpreads", spec := "freedSpreads", unfollowed := true, recurses := true, apart := false }
def FreedSpreadsSaid : Prop := freedSpreadsRow.holds Try.pinned (OpenSpec.ofChange freedSpreadsSpec)

/-- ITS FALSE NEIGHBOUR: 'it returns false'. Refute it at one input. -/
def freedSpreadsWrong : ChangeSpec := { name := "freedSpreads", fn := fun _ => fun
  | [d1, d2, d3] => { results := [.lit (.bool false)], args := [d1, d2, d3] }
  | _ => none }
def FreedSpreadsWrongFalsely : Prop := freedSpreadsRow.holds Try.pinned (OpenSpec.ofChange freedSpreadsWrong)

/-- 'rubricatorlaw10.FreedPuts': WHATEVER THE INPUT: true; the input reads as it did. -/
def freedPutsSpec : ChangeSpec := { name := "freedPuts", fn := fun _ => fun
  | [d1, d2, d3] => { results := [.lit (.bool true)], args := [d1, d2, d3] }
  | _ => none }
def freedPutsRow : OpenClaim := { program := "ythmkmojlnfkfjaa", sum := "b8b7ff6c0f3bf33ad4285caa9f5171dce18ba86472a01835eee9b405b920d18d", func := "rubricator/rubricatorlaw10.FreedPuts", spec := "freedPuts", unfollowed := true, recurses := true, apart := false }
def FreedPutsSaid : Prop := freedPutsRow.holds Try.pinned (OpenSpec.ofChange freedPutsSpec)

/-- ITS FALSE NEIGHBOUR: 'it returns false'. Refute it at one input. -/
def freedPutsWrong : ChangeSpec := { name := "freedPuts", fn := fun _ => fun
  | [d1, d2, d3] => { results := [.lit (.bool false)], args := [d1, d2, d3] }
  | _ => none }
def FreedPutsWrongFalsely : Prop := freedPutsRow.holds Try.pinned (OpenSpec.ofChange freedPutsWrong)

/-- 'rubricatorlaw10.FreedGets': WHATEVER THE INPUT: true; the input reads as it did. -/
def freedGetsSpec : ChangeSpec := { name := "freedGets", fn := fun _ => fun
  | [d1, d2, d3, d4, d5] => { results := [.lit (.bool true)], args := [d1, d2, d3, d4, d5] }
  | _ => none }
def freedGetsRow : OpenClaim := { program := "ythmkmojlnfkfjaa", sum := "b8b7ff6c0f3bf33ad4285caa9f5171dce18ba86472a01835eee9b405b920d18d", func := "rubricator/rubricatorlaw10.FreedGets", spec := "freedGets", unfollowed := true, recurses := true, apart := false }
def FreedGetsSaid : Prop := freedGetsRow.holds Try.pinned (OpenSpec.ofChange freedGetsSpec)

/-- ITS FALSE NEIGHBOUR: 'it returns false'. Refute it at one input. -/
def freedGetsWrong : ChangeSpec := { name := "freedGets", fn := fun _ => fun
  | [d1, d2, d3, d4, d5] => { results := [.lit (.bool false)], args := [d1, d2, d3, d4, d5] }
  | _ => none }
def FreedGetsWrongFalsely : Prop := freedGetsRow.holds Try.pinned (OpenSpec.ofChange freedGetsWrong)

/-- 'rubricatorlaw10.FreedBounds': WHATEVER THE INPUT: true; the input reads as it did. -/
def freedBoundsSpec : ChangeSpec := { name := "freedBounds", fn := fun _ => fun
  | [d1, d2] => { results := [.lit (.bool true)], args := [d1, d2] }
  | _ => none }
def freedBoundsRow : OpenClaim := { program := "ythmkmojlnfkfjaa", sum := "b8b7ff6c0f3bf33ad4285caa9f5171dce18ba86472a01835eee9b405b920d18d", func := "rubricator/rubricatorlaw10.FreedBounds", spec := "freedBounds", unfollowed := true, recurses := true, apart := false }
def FreedBoundsSaid : Prop := freedBoundsRow.holds Try.pinned (OpenSpec.ofChange freedBoundsSpec)

/-- ITS FALSE NEIGHBOUR: 'it returns false'. Refute it at one input. -/
def freedBoundsWrong : ChangeSpec := { name := "freedBounds", fn := fun _ => fun
  | [d1, d2] => { results := [.lit (.bool false)], args := [d1, d2] }
  | _ => none }
def FreedBoundsWrongFalsely : Prop := freedBoundsRow.holds Try.pinned (OpenSpec.ofChange freedBoundsWrong)

/-- 'rubricatorlaw10.FreedGathers': WHATEVER THE INPUT: true; the input reads as it did. -/
def freedGathersSpec : ChangeSpec := { name := "freedGathers", fn := fun _ => fun
  | [d1, d2, d3, d4] => { results := [.lit (.bool true)], args := [d1, d2, d3, d4] }
  | _ => none }
def freedGathersRow : OpenClaim := { program := "ythmkmojlnfkfjaa", sum := "b8b7ff6c0f3bf33ad4285caa9f5171dce18ba86472a01835eee9b405b920d18d", func := "rubricator/rubricatorlaw10.FreedGathers", spec := "freedGathers", unfollowed := true, recurses := true, apart := false }
def FreedGathersSaid : Prop := freedGathersRow.holds Try.pinned (OpenSpec.ofChange freedGathersSpec)

/-- ITS FALSE NEIGHBOUR: 'it returns false'. Refute it at one input. -/
def freedGathersWrong : ChangeSpec := { name := "freedGathers", fn := fun _ => fun
  | [d1, d2, d3, d4] => { results := [.lit (.bool false)], args := [d1, d2, d3, d4] }
  | _ => none }
def FreedGathersWrongFalsely : Prop := freedGathersRow.holds Try.pinned (OpenSpec.ofChange freedGathersWrong)

/-- 'rubricatorlaw10.FreedWhole': WHATEVER THE INPUT: true; the input reads as it did. -/
def freedWholeSpec : ChangeSpec := { name := "freedWhole", fn := fun _ => fun
  | [d1, d2, d3] => { results := [.lit (.bool true)], args := [d1, d2, d3] }
  | _ => none }
def freedWholeRow : OpenClaim := { program := "ythmkmojlnfkfjaa", sum := "b8b7ff6c0f3bf33ad4285caa9f5171dce18ba86472a01835eee9b405b920d18d", func := "rubricator/rubricatorlaw10.FreedWhole", spec := "freedWhole", unfollowed := true, recurses := true, apart := false }
def FreedWholeSaid : Prop := freedWholeRow.holds Try.pinned (OpenSpec.ofChange freedWholeSpec)

/-- ITS FALSE NEIGHBOUR: 'it returns false'. Refute it at one input. -/
def freedWholeWrong : ChangeSpec := { name := "freedWhole", fn := fun _ => fun
  | [d1, d2, d3] => { results := [.lit (.bool false)], args := [d1, d2, d3] }
  | _ => none }
def FreedWholeWrongFalsely : Prop := freedWholeRow.holds Try.pinned (OpenSpec.ofChange freedWholeWrong)

/- THE SECOND FORM. 'bulk': how many values and letters a reading holds, each counted each time it is reached (what is shared counts as often as it is met; a slice's spare places count too). A statement '..UptoSaid' is the law's where the arguments, and the package variables that the reading takes, are together of bulk at most 1048576: NARROWER than '..Said'. Prove '..Said' where nothing that the law and all that it calls make is longer than what came in: it says more and counts as full. Else prove '..UptoSaid'. A law counts once. -/
mutual
def uptoBulk {H : Type} : DataW H → Nat
  | .lit (.string bytes) => bytes.length + 1
  | .lit _ => 1
  | .nil => 1
  | .ptr d => uptoBulk d + 1
  | .slice elems spare => uptoBulkAll elems + uptoBulkAll spare + 1
  | .agg parts => uptoBulkAll parts + 1
  | .iface _ d => uptoBulk d + 1
  | .map entries => uptoBulkEntries entries + 1
  | .held _ => 1
def uptoBulkAll {H : Type} : List (DataW H) → Nat
  | [] => 0
  | d :: r => uptoBulk d + uptoBulkAll r
def uptoBulkEntries {H : Type} : List (Lit × DataW H) → Nat
  | [] => 0
  | x :: r => uptoBulkEntry x + uptoBulkEntries r
def uptoBulkEntry {H : Type} : Lit × DataW H → Nat
  | (.string bytes, d) => bytes.length + uptoBulk d + 1
  | (_, d) => uptoBulk d + 1
 end
def uptoSmall : (H : Type) → List (DataW H) → Bool := fun _ ds => decide (uptoBulkAll ds ≤ 1048576)
def OpenSpec.upto (s : _root_.Go.ChangeSpec) : _root_.Go.OpenSpec := { _root_.Go.OpenSpec.ofChange s with cond := some uptoSmall }

/-- 'rubricatorlaw10.FreedSpreads', WHERE WHAT IT READS IS OF BULK AT MOST 1048576: true; the input reads as it did. -/
def freedSpreadsUptoRow : OpenClaim := { program := "ythmkmojlnfkfjaa", sum := "b8b7ff6c0f3bf33ad4285caa9f5171dce18ba86472a01835eee9b405b920d18d", func := "rubricator/rubricatorlaw10.FreedSpreads", spec := "freedSpreads", unfollowed := true, recurses := true, apart := false, narrowed := true }
def FreedSpreadsUptoSaid : Prop := freedSpreadsUptoRow.holds Try.pinned (OpenSpec.upto freedSpreadsSpec)

/-- 'rubricatorlaw10.FreedPuts', WHERE WHAT IT READS IS OF BULK AT MOST 1048576: true; the input reads as it did. -/
def freedPutsUptoRow : OpenClaim := { program := "ythmkmojlnfkfjaa", sum := "b8b7ff6c0f3bf33ad4285caa9f5171dce18ba86472a01835eee9b405b920d18d", func := "rubricator/rubricatorlaw10.FreedPuts", spec := "freedPuts", unfollowed := true, recurses := true, apart := false, narrowed := true }
def FreedPutsUptoSaid : Prop := freedPutsUptoRow.holds Try.pinned (OpenSpec.upto freedPutsSpec)

/-- 'rubricatorlaw10.FreedGets', WHERE WHAT IT READS IS OF BULK AT MOST 1048576: true; the input reads as it did. -/
def freedGetsUptoRow : OpenClaim := { program := "ythmkmojlnfkfjaa", sum := "b8b7ff6c0f3bf33ad4285caa9f5171dce18ba86472a01835eee9b405b920d18d", func := "rubricator/rubricatorlaw10.FreedGets", spec := "freedGets", unfollowed := true, recurses := true, apart := false, narrowed := true }
def FreedGetsUptoSaid : Prop := freedGetsUptoRow.holds Try.pinned (OpenSpec.upto freedGetsSpec)

/-- 'rubricatorlaw10.FreedBounds', WHERE WHAT IT READS IS OF BULK AT MOST 1048576: true; the input reads as it did. -/
def freedBoundsUptoRow : OpenClaim := { program := "ythmkmojlnfkfjaa", sum := "b8b7ff6c0f3bf33ad4285caa9f5171dce18ba86472a01835eee9b405b920d18d", func := "rubricator/rubricatorlaw10.FreedBounds", spec := "freedBounds", unfollowed := true, recurses := true, apart := false, narrowed := true }
def FreedBoundsUptoSaid : Prop := freedBoundsUptoRow.holds Try.pinned (OpenSpec.upto freedBoundsSpec)

/-- 'rubricatorlaw10.FreedGathers', WHERE WHAT IT READS IS OF BULK AT MOST 1048576: true; the input reads as it did. -/
def freedGathersUptoRow : OpenClaim := { program := "ythmkmojlnfkfjaa", sum := "b8b7ff6c0f3bf33ad4285caa9f5171dce18ba86472a01835eee9b405b920d18d", func := "rubricator/rubricatorlaw10.FreedGathers", spec := "freedGathers", unfollowed := true, recurses := true, apart := false, narrowed := true }
def FreedGathersUptoSaid : Prop := freedGathersUptoRow.holds Try.pinned (OpenSpec.upto freedGathersSpec)

/-- 'rubricatorlaw10.FreedWhole', WHERE WHAT IT READS IS OF BULK AT MOST 1048576: true; the input reads as it did. -/
def freedWholeUptoRow : OpenClaim := { program := "ythmkmojlnfkfjaa", sum := "b8b7ff6c0f3bf33ad4285caa9f5171dce18ba86472a01835eee9b405b920d18d", func := "rubricator/rubricatorlaw10.FreedWhole", spec := "freedWhole", unfollowed := true, recurses := true, apart := false, narrowed := true }
def FreedWholeUptoSaid : Prop := freedWholeUptoRow.holds Try.pinned (OpenSpec.upto freedWholeSpec)

end Rows
end Go.Proofs.Ythmkmojlnfkfjaa
