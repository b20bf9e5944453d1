/-
  No cell of these rows narrows 'for every input' (looked for: loops, veiled, ifaces, maps, wideKeys, modest, calm, conditions, laid).
  DERIVED. THE GIVEN ROWS OF THIS SEAT. 11 by the template 'for every input the law returns true; each argument reads behind the call as it read before'; 0 by the template 'total and deterministic' (their statements: YtmljfjmceakahaaTotals.lean).
  GIVEN WITH THE SEED: the statements are not yours to turn. If you find one false, say at which input.
  Laid BY PROGRAM, IN A SANDBOX (cutbox-rows.mjs): the forced cells as the released guide's own fill.sh prints them over the translation 5c4bbc3337333d6f… (all of the seat's roots in one cut). By AI agents, Wed Nov 11 2026. No macro, syntax, notation, axiom, sorry.
-/
import Derived.Test.YtmljfjmceakahaaChecked
import GoSem.Claim
import GoSem.ClaimJoined
import GoSem.ClaimMapViews
import Derived.JoinedTies
import Derived.KernelRfl
namespace Go.Proofs.Ytmljfjmceakahaa
/- THE CELL 'sum', in the pinned program and in every row, IS THE sha256 OF THE DUMP (.gsa) THAT YtmljfjmceakahaaProg.lean LOADS. Nothing in Lean hashes anything: it is a label: what it is worth is what the hold of that sum in a sandbox is worth. -/
noncomputable def Try.pinned : Pinned := { name := "ytmljfjmceakahaa", sum := "5c4bbc3337333d6feedab6abd4b48b2e34022dd47cbf1592ee74f8241c50d7fc", checked := Try.checked }
namespace Rows
def none {H : Type} : Left H := { results := [], args := [] }

/-- 'rubricatorlaw05.BranchPuts': WHATEVER THE INPUT: true; the input reads as it did. -/
def branchPutsSpec : ChangeSpec := { name := "branchPuts", fn := fun _ => fun
  | [d1, d2, d3, d4] => { results := [.lit (.bool true)], args := [d1, d2, d3, d4] }
  | _ => none }
def branchPutsRow : OpenClaim := { program := "ytmljfjmceakahaa", sum := "5c4bbc3337333d6feedab6abd4b48b2e34022dd47cbf1592ee74f8241c50d7fc", func := "rubricator/rubricatorlaw05.BranchPuts", spec := "branchPuts", inPlace := ["internal/bytealg.Compare"], unfollowed := true, recurses := true, apart := false }
def BranchPutsSaid : Prop := branchPutsRow.holds Try.pinned (OpenSpec.ofChange branchPutsSpec)

/-- ITS FALSE NEIGHBOUR: 'it returns false'. Refute it at one input. -/
def branchPutsWrong : ChangeSpec := { name := "branchPuts", fn := fun _ => fun
  | [d1, d2, d3, d4] => { results := [.lit (.bool false)], args := [d1, d2, d3, d4] }
  | _ => none }
def BranchPutsWrongFalsely : Prop := branchPutsRow.holds Try.pinned (OpenSpec.ofChange branchPutsWrong)

/-- 'rubricatorlaw05.BranchGets': WHATEVER THE INPUT: true; the input reads as it did. -/
def branchGetsSpec : ChangeSpec := { name := "branchGets", fn := fun _ => fun
  | [d1, d2, d3, d4] => { results := [.lit (.bool true)], args := [d1, d2, d3, d4] }
  | _ => none }
def branchGetsRow : OpenClaim := { program := "ytmljfjmceakahaa", sum := "5c4bbc3337333d6feedab6abd4b48b2e34022dd47cbf1592ee74f8241c50d7fc", func := "rubricator/rubricatorlaw05.BranchGets", spec := "branchGets", inPlace := ["internal/bytealg.Compare"], unfollowed := true, recurses := true, apart := false }
def BranchGetsSaid : Prop := branchGetsRow.holds Try.pinned (OpenSpec.ofChange branchGetsSpec)

/-- ITS FALSE NEIGHBOUR: 'it returns false'. Refute it at one input. -/
def branchGetsWrong : ChangeSpec := { name := "branchGets", fn := fun _ => fun
  | [d1, d2, d3, d4] => { results := [.lit (.bool false)], args := [d1, d2, d3, d4] }
  | _ => none }
def BranchGetsWrongFalsely : Prop := branchGetsRow.holds Try.pinned (OpenSpec.ofChange branchGetsWrong)

/-- 'rubricatorlaw05.BranchFour': WHATEVER THE INPUT: true; the input reads as it did. -/
def branchFourSpec : ChangeSpec := { name := "branchFour", fn := fun _ => fun
  | [d1, d2, d3] => { results := [.lit (.bool true)], args := [d1, d2, d3] }
  | _ => none }
def branchFourRow : OpenClaim := { program := "ytmljfjmceakahaa", sum := "5c4bbc3337333d6feedab6abd4b48b2e34022dd47cbf1592ee74f8241c50d7fc", func := "rubricator/rubricatorlaw05.BranchFour", spec := "branchFour", inPlace := ["internal/bytealg.Compare"], unfollowed := true, recurses := true, apart := false }
def BranchFourSaid : Prop := branchFourRow.holds Try.pinned (OpenSpec.ofChange branchFourSpec)

/-- ITS FALSE NEIGHBOUR: 'it returns false'. Refute it at one input. -/
def branchFourWrong : ChangeSpec := { name := "branchFour", fn := fun _ => fun
  | [d1, d2, d3] => { results := [.lit (.bool false)], args := [d1, d2, d3] }
  | _ => none }
def BranchFourWrongFalsely : Prop := branchFourRow.holds Try.pinned (OpenSpec.ofChange branchFourWrong)

/-- 'rubricatorlaw05.BranchLeads': WHATEVER THE INPUT: true; the input reads as it did. -/
def branchLeadsSpec : ChangeSpec := { name := "branchLeads", fn := fun _ => fun
  | [d1, d2] => { results := [.lit (.bool true)], args := [d1, d2] }
  | _ => none }
def branchLeadsRow : OpenClaim := { program := "ytmljfjmceakahaa", sum := "5c4bbc3337333d6feedab6abd4b48b2e34022dd47cbf1592ee74f8241c50d7fc", func := "rubricator/rubricatorlaw05.BranchLeads", spec := "branchLeads", inPlace := ["internal/bytealg.Compare"], unfollowed := true, recurses := true, apart := false }
def BranchLeadsSaid : Prop := branchLeadsRow.holds Try.pinned (OpenSpec.ofChange branchLeadsSpec)

/-- ITS FALSE NEIGHBOUR: 'it returns false'. Refute it at one input. -/
def branchLeadsWrong : ChangeSpec := { name := "branchLeads", fn := fun _ => fun
  | [d1, d2] => { results := [.lit (.bool false)], args := [d1, d2] }
  | _ => none }
def BranchLeadsWrongFalsely : Prop := branchLeadsRow.holds Try.pinned (OpenSpec.ofChange branchLeadsWrong)

/-- 'rubricatorlaw05.BranchRoom': WHATEVER THE INPUT: true; the input reads as it did. -/
def branchRoomSpec : ChangeSpec := { name := "branchRoom", fn := fun _ => fun
  | [d1, d2] => { results := [.lit (.bool true)], args := [d1, d2] }
  | _ => none }
def branchRoomRow : OpenClaim := { program := "ytmljfjmceakahaa", sum := "5c4bbc3337333d6feedab6abd4b48b2e34022dd47cbf1592ee74f8241c50d7fc", func := "rubricator/rubricatorlaw05.BranchRoom", spec := "branchRoom", inPlace := ["internal/bytealg.Compare"], unfollowed := true, recurses := true, apart := false }
def BranchRoomSaid : Prop := branchRoomRow.holds Try.pinned (OpenSpec.ofChange branchRoomSpec)

/-- ITS FALSE NEIGHBOUR: 'it returns false'. Refute it at one input. -/
def branchRoomWrong : ChangeSpec := { name := "branchRoom", fn := fun _ => fun
  | [d1, d2] => { results := [.lit (.bool false)], args := [d1, d2] }
  | _ => none }
def BranchRoomWrongFalsely : Prop := branchRoomRow.holds Try.pinned (OpenSpec.ofChange branchRoomWrong)

/-- 'rubricatorlaw04.LeafPuts': WHATEVER THE INPUT: true; the input reads as it did. -/
def leafPutsSpec : ChangeSpec := { name := "leafPuts", fn := fun _ => fun
  | [d1, d2, d3] => { results := [.lit (.bool true)], args := [d1, d2, d3] }
  | _ => none }
def leafPutsRow : OpenClaim := { program := "ytmljfjmceakahaa", sum := "5c4bbc3337333d6feedab6abd4b48b2e34022dd47cbf1592ee74f8241c50d7fc", func := "rubricator/rubricatorlaw04.LeafPuts", spec := "leafPuts", inPlace := ["internal/bytealg.Compare"], unfollowed := true, recurses := true, apart := false }
def LeafPutsSaid : Prop := leafPutsRow.holds Try.pinned (OpenSpec.ofChange leafPutsSpec)

/-- ITS FALSE NEIGHBOUR: 'it returns false'. Refute it at one input. -/
def leafPutsWrong : ChangeSpec := { name := "leafPuts", fn := fun _ => fun
  | [d1, d2, d3] => { results := [.lit (.bool false)], args := [d1, d2, d3] }
  | _ => none }
def LeafPutsWrongFalsely : Prop := leafPutsRow.holds Try.pinned (OpenSpec.ofChange leafPutsWrong)

/-- 'rubricatorlaw04.LeafGets': WHATEVER THE INPUT: true; the input reads as it did. -/
def leafGetsSpec : ChangeSpec := { name := "leafGets", fn := fun _ => fun
  | [d1, d2, d3, d4] => { results := [.lit (.bool true)], args := [d1, d2, d3, d4] }
  | _ => none }
def leafGetsRow : OpenClaim := { program := "ytmljfjmceakahaa", sum := "5c4bbc3337333d6feedab6abd4b48b2e34022dd47cbf1592ee74f8241c50d7fc", func := "rubricator/rubricatorlaw04.LeafGets", spec := "leafGets", inPlace := ["internal/bytealg.Compare"], unfollowed := true, recurses := true, apart := false }
def LeafGetsSaid : Prop := leafGetsRow.holds Try.pinned (OpenSpec.ofChange leafGetsSpec)

/-- ITS FALSE NEIGHBOUR: 'it returns false'. Refute it at one input. -/
def leafGetsWrong : ChangeSpec := { name := "leafGets", fn := fun _ => fun
  | [d1, d2, d3, d4] => { results := [.lit (.bool false)], args := [d1, d2, d3, d4] }
  | _ => none }
def LeafGetsWrongFalsely : Prop := leafGetsRow.holds Try.pinned (OpenSpec.ofChange leafGetsWrong)

/-- 'rubricatorlaw04.LeafFinds': WHATEVER THE INPUT: true; the input reads as it did. -/
def leafFindsSpec : ChangeSpec := { name := "leafFinds", fn := fun _ => fun
  | [d1, d2] => { results := [.lit (.bool true)], args := [d1, d2] }
  | _ => none }
def leafFindsRow : OpenClaim := { program := "ytmljfjmceakahaa", sum := "5c4bbc3337333d6feedab6abd4b48b2e34022dd47cbf1592ee74f8241c50d7fc", func := "rubricator/rubricatorlaw04.LeafFinds", spec := "leafFinds", inPlace := ["internal/bytealg.Compare"], unfollowed := true, recurses := true, apart := false }
def LeafFindsSaid : Prop := leafFindsRow.holds Try.pinned (OpenSpec.ofChange leafFindsSpec)

/-- ITS FALSE NEIGHBOUR: 'it returns false'. Refute it at one input. -/
def leafFindsWrong : ChangeSpec := { name := "leafFinds", fn := fun _ => fun
  | [d1, d2] => { results := [.lit (.bool false)], args := [d1, d2] }
  | _ => none }
def LeafFindsWrongFalsely : Prop := leafFindsRow.holds Try.pinned (OpenSpec.ofChange leafFindsWrong)

/-- 'rubricatorlaw04.LeafFour': WHATEVER THE INPUT: true; the input reads as it did. -/
def leafFourSpec : ChangeSpec := { name := "leafFour", fn := fun _ => fun
  | [d1, d2, d3] => { results := [.lit (.bool true)], args := [d1, d2, d3] }
  | _ => none }
def leafFourRow : OpenClaim := { program := "ytmljfjmceakahaa", sum := "5c4bbc3337333d6feedab6abd4b48b2e34022dd47cbf1592ee74f8241c50d7fc", func := "rubricator/rubricatorlaw04.LeafFour", spec := "leafFour", inPlace := ["internal/bytealg.Compare"], unfollowed := true, recurses := true, apart := false }
def LeafFourSaid : Prop := leafFourRow.holds Try.pinned (OpenSpec.ofChange leafFourSpec)

/-- ITS FALSE NEIGHBOUR: 'it returns false'. Refute it at one input. -/
def leafFourWrong : ChangeSpec := { name := "leafFour", fn := fun _ => fun
  | [d1, d2, d3] => { results := [.lit (.bool false)], args := [d1, d2, d3] }
  | _ => none }
def LeafFourWrongFalsely : Prop := leafFourRow.holds Try.pinned (OpenSpec.ofChange leafFourWrong)

/-- 'rubricatorlaw04.LeafRoom': WHATEVER THE INPUT: true; the input reads as it did. -/
def leafRoomSpec : ChangeSpec := { name := "leafRoom", fn := fun _ => fun
  | [d1, d2] => { results := [.lit (.bool true)], args := [d1, d2] }
  | _ => none }
def leafRoomRow : OpenClaim := { program := "ytmljfjmceakahaa", sum := "5c4bbc3337333d6feedab6abd4b48b2e34022dd47cbf1592ee74f8241c50d7fc", func := "rubricator/rubricatorlaw04.LeafRoom", spec := "leafRoom", inPlace := ["internal/bytealg.Compare"], unfollowed := true, recurses := true, apart := false }
def LeafRoomSaid : Prop := leafRoomRow.holds Try.pinned (OpenSpec.ofChange leafRoomSpec)

/-- ITS FALSE NEIGHBOUR: 'it returns false'. Refute it at one input. -/
def leafRoomWrong : ChangeSpec := { name := "leafRoom", fn := fun _ => fun
  | [d1, d2] => { results := [.lit (.bool false)], args := [d1, d2] }
  | _ => none }
def LeafRoomWrongFalsely : Prop := leafRoomRow.holds Try.pinned (OpenSpec.ofChange leafRoomWrong)

/-- 'rubricatorlaw04.LeafOwn': WHATEVER THE INPUT: true; the input reads as it did. -/
def leafOwnSpec : ChangeSpec := { name := "leafOwn", fn := fun _ => fun
  | [d1, d2] => { results := [.lit (.bool true)], args := [d1, d2] }
  | _ => none }
def leafOwnRow : OpenClaim := { program := "ytmljfjmceakahaa", sum := "5c4bbc3337333d6feedab6abd4b48b2e34022dd47cbf1592ee74f8241c50d7fc", func := "rubricator/rubricatorlaw04.LeafOwn", spec := "leafOwn", inPlace := ["internal/bytealg.Compare"], unfollowed := true, recurses := true, apart := false }
def LeafOwnSaid : Prop := leafOwnRow.holds Try.pinned (OpenSpec.ofChange leafOwnSpec)

/-- ITS FALSE NEIGHBOUR: 'it returns false'. Refute it at one input. -/
def leafOwnWrong : ChangeSpec := { name := "leafOwn", fn := fun _ => fun
  | [d1, d2] => { results := [.lit (.bool false)], args := [d1, d2] }
  | _ => none }
def LeafOwnWrongFalsely : Prop := leafOwnRow.holds Try.pinned (OpenSpec.ofChange leafOwnWrong)

/- THE SECOND FORM. 'bulk': how many values and letters a reading holds, each counted each time it is reached (what is shared counts as often as it is met; a slice's spare places count too). A statement '..UptoSaid' is the law's where the arguments, and the package variables that the reading takes, are together of bulk at most 1048576: NARROWER than '..Said'. Prove '..Said' where nothing that the law and all that it calls make is longer than what came in: it says more and counts as full. Else prove '..UptoSaid'. A law counts once. -/
mutual
def uptoBulk {H : Type} : DataW H → Nat
  | .lit (.string bytes) => bytes.length + 1
  | .lit _ => 1
  | .nil => 1
  | .ptr d => uptoBulk d + 1
  | .slice elems spare => uptoBulkAll elems + uptoBulkAll spare + 1
  | .agg parts => uptoBulkAll parts + 1
  | .iface _ d => uptoBulk d + 1
  | .map entries => uptoBulkEntries entries + 1
  | .held _ => 1
def uptoBulkAll {H : Type} : List (DataW H) → Nat
  | [] => 0
  | d :: r => uptoBulk d + uptoBulkAll r
def uptoBulkEntries {H : Type} : List (Lit × DataW H) → Nat
  | [] => 0
  | x :: r => uptoBulkEntry x + uptoBulkEntries r
def uptoBulkEntry {H : Type} : Lit × DataW H → Nat
  | (.string bytes, d) => bytes.length + uptoBulk d + 1
  | (_, d) => uptoBulk d + 1
 end
def uptoSmall : (H : Type) → List (DataW H) → Bool := fun _ ds => decide (uptoBulkAll ds ≤ 1048576)
def OpenSpec.upto (s : _root_.Go.ChangeSpec) : _root_.Go.OpenSpec := { _root_.Go.OpenSpec.ofChange s with cond := some uptoSmall }

/-- 'rubricatorlaw05.BranchPuts', WHERE WHAT IT READS IS OF BULK AT MOST 1048576: true; the input reads as it did. -/
def branchPutsUptoRow : OpenClaim := { program := "ytmljfjmceakahaa", sum := "5c4bbc3337333d6feedab6abd4b48b2e34022dd47cbf1592ee74f8241c50d7fc", func := "rubricator/rubricatorlaw05.BranchPuts", spec := "branchPuts", inPlace := ["internal/bytealg.Compare"], unfollowed := true, recurses := true, apart := false, narrowed := true }
def BranchPutsUptoSaid : Prop := branchPutsUptoRow.holds Try.pinned (OpenSpec.upto branchPutsSpec)

/-- 'rubricatorlaw05.BranchGets', WHERE WHAT IT READS IS OF BULK AT MOST 1048576: true; the input reads as it did. -/
def branchGetsUptoRow : OpenClaim := { program := "ytmljfjmceakahaa", sum := "5c4bbc3337333d6feedab6abd4b48b2e34022dd47cbf1592ee74f8241c50d7fc", func := "rubricator/rubricatorlaw05.BranchGets", spec := "branchGets", inPlace := ["internal/bytealg.Compare"], unfollowed := true, recurses := true, apart := false, narrowed := true }
def BranchGetsUptoSaid : Prop := branchGetsUptoRow.holds Try.pinned (OpenSpec.upto branchGetsSpec)

/-- 'rubricatorlaw05.BranchFour', WHERE WHAT IT READS IS OF BULK AT MOST 1048576: true; the input reads as it did. -/
def branchFourUptoRow : OpenClaim := { program := "ytmljfjmceakahaa", sum := "5c4bbc3337333d6feedab6abd4b48b2e34022dd47cbf1592ee74f8241c50d7fc", func := "rubricator/rubricatorlaw05.BranchFour", spec := "branchFour", inPlace := ["internal/bytealg.Compare"], unfollowed := true, recurses := true, apart := false, narrowed := true }
def BranchFourUptoSaid : Prop := branchFourUptoRow.holds Try.pinned (OpenSpec.upto branchFourSpec)

/-- 'rubricatorlaw05.BranchLeads', WHERE WHAT IT READS IS OF BULK AT MOST 1048576: true; the input reads as it did. -/
def branchLeadsUptoRow : OpenClaim := { program := "ytmljfjmceakahaa", sum := "5c4bbc3337333d6feedab6abd4b48b2e34022dd47cbf1592ee74f8241c50d7fc", func := "rubricator/rubricatorlaw05.BranchLeads", spec := "branchLeads", inPlace := ["internal/bytealg.Compare"], unfollowed := true, recurses := true, apart := false, narrowed := true }
def BranchLeadsUptoSaid : Prop := branchLeadsUptoRow.holds Try.pinned (OpenSpec.upto branchLeadsSpec)

/-- 'rubricatorlaw05.BranchRoom', WHERE WHAT IT READS IS OF BULK AT MOST 1048576: true; the input reads as it did. -/
def branchRoomUptoRow : OpenClaim := { program := "ytmljfjmceakahaa", sum := "5c4bbc3337333d6feedab6abd4b48b2e34022dd47cbf1592ee74f8241c50d7fc", func := "rubricator/rubricatorlaw05.BranchRoom", spec := "branchRoom", inPlace := ["internal/bytealg.Compare"], unfollowed := true, recurses := true, apart := false, narrowed := true }
def BranchRoomUptoSaid : Prop := branchRoomUptoRow.holds Try.pinned (OpenSpec.upto branchRoomSpec)

/-- 'rubricatorlaw04.LeafPuts', WHERE WHAT IT READS IS OF BULK AT MOST 1048576: true; the input reads as it did. -/
def leafPutsUptoRow : OpenClaim := { program := "ytmljfjmceakahaa", sum := "5c4bbc3337333d6feedab6abd4b48b2e34022dd47cbf1592ee74f8241c50d7fc", func := "rubricator/rubricatorlaw04.LeafPuts", spec := "leafPuts", inPlace := ["internal/bytealg.Compare"], unfollowed := true, recurses := true, apart := false, narrowed := true }
def LeafPutsUptoSaid : Prop := leafPutsUptoRow.holds Try.pinned (OpenSpec.upto leafPutsSpec)

/-- 'rubricatorlaw04.LeafGets', WHERE WHAT IT READS IS OF BULK AT MOST 1048576: true; the input reads as it did. -/
def leafGetsUptoRow : OpenClaim := { program := "ytmljfjmceakahaa", sum := "5c4bbc3337333d6feedab6abd4b48b2e34022dd47cbf1592ee74f8241c50d7fc", func := "rubricator/rubricatorlaw04.LeafGets", spec := "leafGets", inPlace := ["internal/bytealg.Compare"], unfollowed := true, recurses := true, apart := false, narrowed := true }
def LeafGetsUptoSaid : Prop := leafGetsUptoRow.holds Try.pinned (OpenSpec.upto leafGetsSpec)

/-- 'rubricatorlaw04.LeafFinds', WHERE WHAT IT READS IS OF BULK AT MOST 1048576: true; the input reads as it did. -/
def leafFindsUptoRow : OpenClaim := { program := "ytmljfjmceakahaa", sum := "5c4bbc3337333d6feedab6abd4b48b2e34022dd47cbf1592ee74f8241c50d7fc", func := "rubricator/rubricatorlaw04.LeafFinds", spec := "leafFinds", inPlace := ["internal/bytealg.Compare"], unfollowed := true, recurses := true, apart := false, narrowed := true }
def LeafFindsUptoSaid : Prop := leafFindsUptoRow.holds Try.pinned (OpenSpec.upto leafFindsSpec)

/-- 'rubricatorlaw04.LeafFour', WHERE WHAT IT READS IS OF BULK AT MOST 1048576: true; the input reads as it did. -/
def leafFourUptoRow : OpenClaim := { program := "ytmljfjmceakahaa", sum := "5c4bbc3337333d6feedab6abd4b48b2e34022dd47cbf1592ee74f8241c50d7fc", func := "rubricator/rubricatorlaw04.LeafFour", spec := "leafFour", inPlace := ["internal/bytealg.Compare"], unfollowed := true, recurses := true, apart := false, narrowed := true }
def LeafFourUptoSaid : Prop := leafFourUptoRow.holds Try.pinned (OpenSpec.upto leafFourSpec)

/-- 'rubricatorlaw04.LeafRoom', WHERE WHAT IT READS IS OF BULK AT MOST 1048576: true; the input reads as it did. -/
def leafRoomUptoRow : OpenClaim := { program := "ytmljfjmceakahaa", sum := "5c4bbc3337333d6feedab6abd4b48b2e34022dd47cbf1592ee74f8241c50d7fc", func := "rubricator/rubricatorlaw04.LeafRoom", spec := "leafRoom", inPlace := ["internal/bytealg.Compare"], unfollowed := true, recurses := true, apart := false, narrowed := true }
def LeafRoomUptoSaid : Prop := leafRoomUptoRow.holds Try.pinned (OpenSpec.upto leafRoomSpec)

/-- 'rubricatorlaw04.LeafOwn', WHERE WHAT IT READS IS OF BULK AT MOST 1048576: true; the input reads as it did. -/
def leafOwnUptoRow : OpenClaim := { program := "ytmljfjmceakahaa", sum := "5c4bbc3337333d6feedab6abd4b48b2e34022dd47cbf1592ee74f8241c50d7fc", func := "rubricator/rubricatorlaw04.LeafOwn", spec := "leafOwn", inPlace := ["internal/bytealg.Compare"], unfollowed := true, recurses := true, apart := false, narrowed := true }
def LeafOwnUptoSaid : Prop := leafOwnUptoRow.holds Try.pinned (OpenSpec.upto leafOwnSpec)

end Rows
end Go.Proofs.Ytmljfjmceakahaa
