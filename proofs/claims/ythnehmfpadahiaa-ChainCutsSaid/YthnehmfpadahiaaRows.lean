/-
  No cell of these rows narrows 'for every input' (looked for: loops, veiled, ifaces, maps, wideKeys, modest, calm, conditions, laid).
  DERIVED. THE GIVEN ROWS OF THIS SEAT. 11 by the template 'for every input the law returns true; each argument reads behind the call as it read before'; 0 by the template 'total and deterministic' (their statements: YthnehmfpadahiaaTotals.lean).
  GIVEN WITH THE SEED: the statements are not yours to turn. If you find one false, say at which input.
  Laid BY PROGRAM, IN A SANDBOX (cutbox-rows.mjs): the forced cells as the released guide's own fill.sh prints them over the translation c50c828572ada7e3… (all of the seat's roots in one cut). By AI agents, Wed Nov 11 2026. No macro, syntax, notation, axiom, sorry.
-/
import Derived.Test.YthnehmfpadahiaaChecked
import GoSem.Claim
import GoSem.ClaimJoined
import GoSem.ClaimMapViews
import Derived.JoinedTies
import Derived.KernelRfl
namespace Go.Proofs.Ythnehmfpadahiaa
/- THE CELL 'sum', in the pinned program and in every row, IS THE sha256 OF THE DUMP (.gsa) THAT YthnehmfpadahiaaProg.lean LOADS. Nothing in Lean hashes anything: it is a label: what it is worth is what the hold of that sum in a sandbox is worth. -/
noncomputable def Try.pinned : Pinned := { name := "ythnehmfpadahiaa", sum := "c50c828572ada7e352888e7d3bb6942e5396bd01f350eb820dffff205130b208", checked := Try.checked }
namespace Rows
def none {H : Type} : Left H := { results := [], args := [] }

/-- 'rubricatorlaw06.ChainPuts': WHATEVER THE INPUT: true; the input reads as it did. -/
def chainPutsSpec : ChangeSpec := { name := "chainPuts", fn := fun _ => fun
  | [d1, d2, d3] => { results := [.lit (.bool true)], args := [d1, d2, d3] }
  | _ => none }
def chainPutsRow : OpenClaim := { program := "ythnehmfpadahiaa", sum := "c50c828572ada7e352888e7d3bb6942e5396bd01f350eb820dffff205130b208", func := "rubricator/rubricatorlaw06.ChainPuts", spec := "chainPuts", apart := false }
def ChainPutsSaid : Prop := chainPutsRow.holds Try.pinned (OpenSpec.ofChange chainPutsSpec)

/-- ITS FALSE NEIGHBOUR: 'it returns false'. Refute it at one input. -/
def chainPutsWrong : ChangeSpec := { name := "chainPuts", fn := fun _ => fun
  | [d1, d2, d3] => { results := [.lit (.bool false)], args := [d1, d2, d3] }
  | _ => none }
def ChainPutsWrongFalsely : Prop := chainPutsRow.holds Try.pinned (OpenSpec.ofChange chainPutsWrong)

/-- 'rubricatorlaw06.ChainGets': WHATEVER THE INPUT: true; the input reads as it did. -/
def chainGetsSpec : ChangeSpec := { name := "chainGets", fn := fun _ => fun
  | [d1, d2, d3, d4, d5] => { results := [.lit (.bool true)], args := [d1, d2, d3, d4, d5] }
  | _ => none }
def chainGetsRow : OpenClaim := { program := "ythnehmfpadahiaa", sum := "c50c828572ada7e352888e7d3bb6942e5396bd01f350eb820dffff205130b208", func := "rubricator/rubricatorlaw06.ChainGets", spec := "chainGets", apart := false }
def ChainGetsSaid : Prop := chainGetsRow.holds Try.pinned (OpenSpec.ofChange chainGetsSpec)

/-- ITS FALSE NEIGHBOUR: 'it returns false'. Refute it at one input. -/
def chainGetsWrong : ChangeSpec := { name := "chainGets", fn := fun _ => fun
  | [d1, d2, d3, d4, d5] => { results := [.lit (.bool false)], args := [d1, d2, d3, d4, d5] }
  | _ => none }
def ChainGetsWrongFalsely : Prop := chainGetsRow.holds Try.pinned (OpenSpec.ofChange chainGetsWrong)

/-- 'rubricatorlaw06.ChainBounds': WHATEVER THE INPUT: true; the input reads as it did. -/
def chainBoundsSpec : ChangeSpec := { name := "chainBounds", fn := fun _ => fun
  | [d1, d2] => { results := [.lit (.bool true)], args := [d1, d2] }
  | _ => none }
def chainBoundsRow : OpenClaim := { program := "ythnehmfpadahiaa", sum := "c50c828572ada7e352888e7d3bb6942e5396bd01f350eb820dffff205130b208", func := "rubricator/rubricatorlaw06.ChainBounds", spec := "chainBounds", apart := false }
def ChainBoundsSaid : Prop := chainBoundsRow.holds Try.pinned (OpenSpec.ofChange chainBoundsSpec)

/-- ITS FALSE NEIGHBOUR: 'it returns false'. Refute it at one input. -/
def chainBoundsWrong : ChangeSpec := { name := "chainBounds", fn := fun _ => fun
  | [d1, d2] => { results := [.lit (.bool false)], args := [d1, d2] }
  | _ => none }
def ChainBoundsWrongFalsely : Prop := chainBoundsRow.holds Try.pinned (OpenSpec.ofChange chainBoundsWrong)

/-- 'rubricatorlaw06.ChainCuts': WHATEVER THE INPUT: true; the input reads as it did. -/
def chainCutsSpec : ChangeSpec := { name := "chainCuts", fn := fun _ => fun
  | [d1, d2, d3] => { results := [.lit (.bool true)], args := [d1, d2, d3] }
  | _ => none }
def chainCutsRow : OpenClaim := { program := "ythnehmfpadahiaa", sum := "c50c828572ada7e352888e7d3bb6942e5396bd01f350eb820dffff205130b208", func := "rubricator/rubricatorlaw06.ChainCuts", spec := "chainCuts", unfollowed := true, recurses := true, apart := false }
def ChainCutsSaid : Prop := chainCutsRow.holds Try.pinned (OpenSpec.ofChange chainCutsSpec)

/-- ITS FALSE NEIGHBOUR: 'it returns false'. Refute it at one input. -/
def chainCutsWrong : ChangeSpec := { name := "chainCuts", fn := fun _ => fun
  | [d1, d2, d3] => { results := [.lit (.bool false)], args := [d1, d2, d3] }
  | _ => none }
def ChainCutsWrongFalsely : Prop := chainCutsRow.holds Try.pinned (OpenSpec.ofChange chainCutsWrong)

/-- 'rubricatorlaw06.ChainWhole': WHATEVER THE INPUT: true; the input reads as it did. -/
def chainWholeSpec : ChangeSpec := { name := "chainWhole", fn := fun _ => fun
  | [d1, d2] => { results := [.lit (.bool true)], args := [d1, d2] }
  | _ => none }
def chainWholeRow : OpenClaim := { program := "ythnehmfpadahiaa", sum := "c50c828572ada7e352888e7d3bb6942e5396bd01f350eb820dffff205130b208", func := "rubricator/rubricatorlaw06.ChainWhole", spec := "chainWhole", unfollowed := true, recurses := true, apart := false }
def ChainWholeSaid : Prop := chainWholeRow.holds Try.pinned (OpenSpec.ofChange chainWholeSpec)

/-- ITS FALSE NEIGHBOUR: 'it returns false'. Refute it at one input. -/
def chainWholeWrong : ChangeSpec := { name := "chainWhole", fn := fun _ => fun
  | [d1, d2] => { results := [.lit (.bool false)], args := [d1, d2] }
  | _ => none }
def ChainWholeWrongFalsely : Prop := chainWholeRow.holds Try.pinned (OpenSpec.ofChange chainWholeWrong)

/-- 'rubricatorlaw06.ChainOwn': WHATEVER THE INPUT: true; the input reads as it did. -/
def chainOwnSpec : ChangeSpec := { name := "chainOwn", fn := fun _ => fun
  | [d1, d2] => { results := [.lit (.bool true)], args := [d1, d2] }
  | _ => none }
def chainOwnRow : OpenClaim := { program := "ythnehmfpadahiaa", sum := "c50c828572ada7e352888e7d3bb6942e5396bd01f350eb820dffff205130b208", func := "rubricator/rubricatorlaw06.ChainOwn", spec := "chainOwn", unfollowed := true, recurses := true, apart := false }
def ChainOwnSaid : Prop := chainOwnRow.holds Try.pinned (OpenSpec.ofChange chainOwnSpec)

/-- ITS FALSE NEIGHBOUR: 'it returns false'. Refute it at one input. -/
def chainOwnWrong : ChangeSpec := { name := "chainOwn", fn := fun _ => fun
  | [d1, d2] => { results := [.lit (.bool false)], args := [d1, d2] }
  | _ => none }
def ChainOwnWrongFalsely : Prop := chainOwnRow.holds Try.pinned (OpenSpec.ofChange chainOwnWrong)

/-- 'rubricatorlaw01.OctetPuts': WHATEVER THE INPUT: true; the input reads as it did. -/
def octetPutsSpec : ChangeSpec := { name := "octetPuts", fn := fun _ => fun
  | [d] => { results := [.lit (.bool true)], args := [d] }
  | _ => none }
def octetPutsRow : OpenClaim := { program := "ythnehmfpadahiaa", sum := "c50c828572ada7e352888e7d3bb6942e5396bd01f350eb820dffff205130b208", func := "rubricator/rubricatorlaw01.OctetPuts", spec := "octetPuts", unfollowed := true, recurses := true, apart := false }
def OctetPutsSaid : Prop := octetPutsRow.holds Try.pinned (OpenSpec.ofChange octetPutsSpec)

/-- ITS FALSE NEIGHBOUR: 'it returns false'. Refute it at one input. -/
def octetPutsWrong : ChangeSpec := { name := "octetPuts", fn := fun _ => fun
  | [d] => { results := [.lit (.bool false)], args := [d] }
  | _ => none }
def OctetPutsWrongFalsely : Prop := octetPutsRow.holds Try.pinned (OpenSpec.ofChange octetPutsWrong)

/-- 'rubricatorlaw01.OctetBack': WHATEVER THE INPUT: true; the input reads as it did. -/
def octetBackSpec : ChangeSpec := { name := "octetBack", fn := fun _ => fun
  | [d1, d2, d3] => { results := [.lit (.bool true)], args := [d1, d2, d3] }
  | _ => none }
def octetBackRow : OpenClaim := { program := "ythnehmfpadahiaa", sum := "c50c828572ada7e352888e7d3bb6942e5396bd01f350eb820dffff205130b208", func := "rubricator/rubricatorlaw01.OctetBack", spec := "octetBack", unfollowed := true, recurses := true, apart := false }
def OctetBackSaid : Prop := octetBackRow.holds Try.pinned (OpenSpec.ofChange octetBackSpec)

/-- ITS FALSE NEIGHBOUR: 'it returns false'. Refute it at one input. -/
def octetBackWrong : ChangeSpec := { name := "octetBack", fn := fun _ => fun
  | [d1, d2, d3] => { results := [.lit (.bool false)], args := [d1, d2, d3] }
  | _ => none }
def OctetBackWrongFalsely : Prop := octetBackRow.holds Try.pinned (OpenSpec.ofChange octetBackWrong)

/-- 'rubricatorlaw01.OctetShort': WHATEVER THE INPUT: true; the input reads as it did. -/
def octetShortSpec : ChangeSpec := { name := "octetShort", fn := fun _ => fun
  | [d1, d2] => { results := [.lit (.bool true)], args := [d1, d2] }
  | _ => none }
def octetShortRow : OpenClaim := { program := "ythnehmfpadahiaa", sum := "c50c828572ada7e352888e7d3bb6942e5396bd01f350eb820dffff205130b208", func := "rubricator/rubricatorlaw01.OctetShort", spec := "octetShort", unfollowed := true, recurses := true, apart := false }
def OctetShortSaid : Prop := octetShortRow.holds Try.pinned (OpenSpec.ofChange octetShortSpec)

/-- ITS FALSE NEIGHBOUR: 'it returns false'. Refute it at one input. -/
def octetShortWrong : ChangeSpec := { name := "octetShort", fn := fun _ => fun
  | [d1, d2] => { results := [.lit (.bool false)], args := [d1, d2] }
  | _ => none }
def OctetShortWrongFalsely : Prop := octetShortRow.holds Try.pinned (OpenSpec.ofChange octetShortWrong)

/-- 'rubricatorlaw01.OctetErrs': WHATEVER THE INPUT: true; the input reads as it did. -/
def octetErrsSpec : ChangeSpec := { name := "octetErrs", fn := fun _ => fun
  | [d1, d2] => { results := [.lit (.bool true)], args := [d1, d2] }
  | _ => none }
def octetErrsRow : OpenClaim := { program := "ythnehmfpadahiaa", sum := "c50c828572ada7e352888e7d3bb6942e5396bd01f350eb820dffff205130b208", func := "rubricator/rubricatorlaw01.OctetErrs", spec := "octetErrs", unfollowed := true, recurses := true, apart := false }
def OctetErrsSaid : Prop := octetErrsRow.holds Try.pinned (OpenSpec.ofChange octetErrsSpec)

/-- ITS FALSE NEIGHBOUR: 'it returns false'. Refute it at one input. -/
def octetErrsWrong : ChangeSpec := { name := "octetErrs", fn := fun _ => fun
  | [d1, d2] => { results := [.lit (.bool false)], args := [d1, d2] }
  | _ => none }
def OctetErrsWrongFalsely : Prop := octetErrsRow.holds Try.pinned (OpenSpec.ofChange octetErrsWrong)

/-- 'rubricatorlaw01.OctetJoins': WHATEVER THE INPUT: true; the input reads as it did. -/
def octetJoinsSpec : ChangeSpec := { name := "octetJoins", fn := fun _ => fun
  | [d1, d2, d3] => { results := [.lit (.bool true)], args := [d1, d2, d3] }
  | _ => none }
def octetJoinsRow : OpenClaim := { program := "ythnehmfpadahiaa", sum := "c50c828572ada7e352888e7d3bb6942e5396bd01f350eb820dffff205130b208", func := "rubricator/rubricatorlaw01.OctetJoins", spec := "octetJoins", unfollowed := true, recurses := true, apart := false }
def OctetJoinsSaid : Prop := octetJoinsRow.holds Try.pinned (OpenSpec.ofChange octetJoinsSpec)

/-- ITS FALSE NEIGHBOUR: 'it returns false'. Refute it at one input. -/
def octetJoinsWrong : ChangeSpec := { name := "octetJoins", fn := fun _ => fun
  | [d1, d2, d3] => { results := [.lit (.bool false)], args := [d1, d2, d3] }
  | _ => none }
def OctetJoinsWrongFalsely : Prop := octetJoinsRow.holds Try.pinned (OpenSpec.ofChange octetJoinsWrong)

/- THE SECOND FORM. 'bulk': how many values and letters a reading holds, each counted each time it is reached (what is shared counts as often as it is met; a slice's spare places count too). A statement '..UptoSaid' is the law's where the arguments, and the package variables that the reading takes, are together of bulk at most 1048576: NARROWER than '..Said'. Prove '..Said' where nothing that the law and all that it calls make is longer than what came in: it says more and counts as full. Else prove '..UptoSaid'. A law counts once. -/
mutual
def uptoBulk {H : Type} : DataW H → Nat
  | .lit (.string bytes) => bytes.length + 1
  | .lit _ => 1
  | .nil => 1
  | .ptr d => uptoBulk d + 1
  | .slice elems spare => uptoBulkAll elems + uptoBulkAll spare + 1
  | .agg parts => uptoBulkAll parts + 1
  | .iface _ d => uptoBulk d + 1
  | .map entries => uptoBulkEntries entries + 1
  | .held _ => 1
def uptoBulkAll {H : Type} : List (DataW H) → Nat
  | [] => 0
  | d :: r => uptoBulk d + uptoBulkAll r
def uptoBulkEntries {H : Type} : List (Lit × DataW H) → Nat
  | [] => 0
  | x :: r => uptoBulkEntry x + uptoBulkEntries r
def uptoBulkEntry {H : Type} : Lit × DataW H → Nat
  | (.string bytes, d) => bytes.length + uptoBulk d + 1
  | (_, d) => uptoBulk d + 1
 end
def uptoSmall : (H : Type) → List (DataW H) → Bool := fun _ ds => decide (uptoBulkAll ds ≤ 1048576)
def OpenSpec.upto (s : _root_.Go.ChangeSpec) : _root_.Go.OpenSpec := { _root_.Go.OpenSpec.ofChange s with cond := some uptoSmall }

/-- 'rubricatorlaw06.ChainPuts', WHERE WHAT IT READS IS OF BULK AT MOST 1048576: true; the input reads as it did. -/
def chainPutsUptoRow : OpenClaim := { program := "ythnehmfpadahiaa", sum := "c50c828572ada7e352888e7d3bb6942e5396bd01f350eb820dffff205130b208", func := "rubricator/rubricatorlaw06.ChainPuts", spec := "chainPuts", apart := false, narrowed := true }
def ChainPutsUptoSaid : Prop := chainPutsUptoRow.holds Try.pinned (OpenSpec.upto chainPutsSpec)

/-- 'rubricatorlaw06.ChainGets', WHERE WHAT IT READS IS OF BULK AT MOST 1048576: true; the input reads as it did. -/
def chainGetsUptoRow : OpenClaim := { program := "ythnehmfpadahiaa", sum := "c50c828572ada7e352888e7d3bb6942e5396bd01f350eb820dffff205130b208", func := "rubricator/rubricatorlaw06.ChainGets", spec := "chainGets", apart := false, narrowed := true }
def ChainGetsUptoSaid : Prop := chainGetsUptoRow.holds Try.pinned (OpenSpec.upto chainGetsSpec)

/-- 'rubricatorlaw06.ChainBounds', WHERE WHAT IT READS IS OF BULK AT MOST 1048576: true; the input reads as it did. -/
def chainBoundsUptoRow : OpenClaim := { program := "ythnehmfpadahiaa", sum := "c50c828572ada7e352888e7d3bb6942e5396bd01f350eb820dffff205130b208", func := "rubricator/rubricatorlaw06.ChainBounds", spec := "chainBounds", apart := false, narrowed := true }
def ChainBoundsUptoSaid : Prop := chainBoundsUptoRow.holds Try.pinned (OpenSpec.upto chainBoundsSpec)

/-- 'rubricatorlaw06.ChainCuts', WHERE WHAT IT READS IS OF BULK AT MOST 1048576: true; the input reads as it did. -/
def chainCutsUptoRow : OpenClaim := { program := "ythnehmfpadahiaa", sum := "c50c828572ada7e352888e7d3bb6942e5396bd01f350eb820dffff205130b208", func := "rubricator/rubricatorlaw06.ChainCuts", spec := "chainCuts", unfollowed := true, recurses := true, apart := false, narrowed := true }
def ChainCutsUptoSaid : Prop := chainCutsUptoRow.holds Try.pinned (OpenSpec.upto chainCutsSpec)

/-- 'rubricatorlaw06.ChainWhole', WHERE WHAT IT READS IS OF BULK AT MOST 1048576: true; the input reads as it did. -/
def chainWholeUptoRow : OpenClaim := { program := "ythnehmfpadahiaa", sum := "c50c828572ada7e352888e7d3bb6942e5396bd01f350eb820dffff205130b208", func := "rubricator/rubricatorlaw06.ChainWhole", spec := "chainWhole", unfollowed := true, recurses := true, apart := false, narrowed := true }
def ChainWholeUptoSaid : Prop := chainWholeUptoRow.holds Try.pinned (OpenSpec.upto chainWholeSpec)

/-- 'rubricatorlaw06.ChainOwn', WHERE WHAT IT READS IS OF BULK AT MOST 1048576: true; the input reads as it did. -/
def chainOwnUptoRow : OpenClaim := { program := "ythnehmfpadahiaa", sum := "c50c828572ada7e352888e7d3bb6942e5396bd01f350eb820dffff205130b208", func := "rubricator/rubricatorlaw06.ChainOwn", spec := "chainOwn", unfollowed := true, recurses := true, apart := false, narrowed := true }
def ChainOwnUptoSaid : Prop := chainOwnUptoRow.holds Try.pinned (OpenSpec.upto chainOwnSpec)

/-- 'rubricatorlaw01.OctetPuts', WHERE WHAT IT READS IS OF BULK AT MOST 1048576: true; the input reads as it did. -/
def octetPutsUptoRow : OpenClaim := { program := "ythnehmfpadahiaa", sum := "c50c828572ada7e352888e7d3bb6942e5396bd01f350eb820dffff205130b208", func := "rubricator/rubricatorlaw01.OctetPuts", spec := "octetPuts", unfollowed := true, recurses := true, apart := false, narrowed := true }
def OctetPutsUptoSaid : Prop := octetPutsUptoRow.holds Try.pinned (OpenSpec.upto octetPutsSpec)

/-- 'rubricatorlaw01.OctetBack', WHERE WHAT IT READS IS OF BULK AT MOST 1048576: true; the input reads as it did. -/
def octetBackUptoRow : OpenClaim := { program := "ythnehmfpadahiaa", sum := "c50c828572ada7e352888e7d3bb6942e5396bd01f350eb820dffff205130b208", func := "rubricator/rubricatorlaw01.OctetBack", spec := "octetBack", unfollowed := true, recurses := true, apart := false, narrowed := true }
def OctetBackUptoSaid : Prop := octetBackUptoRow.holds Try.pinned (OpenSpec.upto octetBackSpec)

/-- 'rubricatorlaw01.OctetShort', WHERE WHAT IT READS IS OF BULK AT MOST 1048576: true; the input reads as it did. -/
def octetShortUptoRow : OpenClaim := { program := "ythnehmfpadahiaa", sum := "c50c828572ada7e352888e7d3bb6942e5396bd01f350eb820dffff205130b208", func := "rubricator/rubricatorlaw01.OctetShort", spec := "octetShort", unfollowed := true, recurses := true, apart := false, narrowed := true }
def OctetShortUptoSaid : Prop := octetShortUptoRow.holds Try.pinned (OpenSpec.upto octetShortSpec)

/-- 'rubricatorlaw01.OctetErrs', WHERE WHAT IT READS IS OF BULK AT MOST 1048576: true; the input reads as it did. -/
def octetErrsUptoRow : OpenClaim := { program := "ythnehmfpadahiaa", sum := "c50c828572ada7e352888e7d3bb6942e5396bd01f350eb820dffff205130b208", func := "rubricator/rubricatorlaw01.OctetErrs", spec := "octetErrs", unfollowed := true, recurses := true, apart := false, narrowed := true }
def OctetErrsUptoSaid : Prop := octetErrsUptoRow.holds Try.pinned (OpenSpec.upto octetErrsSpec)

/-- 'rubricatorlaw01.OctetJoins', WHERE WHAT IT READS IS OF BULK AT MOST 1048576: true; the input reads as it did. -/
def octetJoinsUptoRow : OpenClaim := { program := "ythnehmfpadahiaa", sum := "c50c828572ada7e352888e7d3bb6942e5396bd01f350eb820dffff205130b208", func := "rubricator/rubricatorlaw01.OctetJoins", spec := "octetJoins", unfollowed := true, recurses := true, apart := false, narrowed := true }
def OctetJoinsUptoSaid : Prop := octetJoinsUptoRow.holds Try.pinned (OpenSpec.upto octetJoinsSpec)

end Rows
end Go.Proofs.Ythnehmfpadahiaa
