/-
  No cell of these rows narrows 'for every input' (looked for: loops, veiled, ifaces, maps, wideKeys, modest, calm, conditions, laid).
  DERIVED. THE GIVEN ROWS OF THIS SEAT. 7 by the template 'for every input the law returns true; each argument reads behind the call as it read before'; 0 by the template 'total and deterministic' (their statements: YtpipgeboddaipaaTotals.lean).
  GIVEN WITH THE SEED: the statements are not yours to turn. If you find one false, say at which input.
  Laid BY PROGRAM, IN A SANDBOX (cutbox-rows.mjs): the forced cells as the released guide's own fill.sh prints them over the translation 8f0993353f76a1ae… (all of the seat's roots in one cut). By AI agents, Wed Nov 11 2026. No macro, syntax, notation, axiom, sorry.
-/
import Derived.Test.YtpipgeboddaipaaChecked
import GoSem.Claim
import GoSem.ClaimJoined
import GoSem.ClaimMapViews
import Derived.JoinedTies
import Derived.KernelRfl
namespace Go.Proofs.Ytpipgeboddaipaa
/- THE CELL 'sum', in the pinned program and in every row, IS THE sha256 OF THE DUMP (.gsa) THAT YtpipgeboddaipaaProg.lean LOADS. Nothing in Lean hashes anything: it is a label: what it is worth is what the hold of that sum in a sandbox is worth. -/
noncomputable def Try.pinned : Pinned := { name := "ytpipgeboddaipaa", sum := "8f0993353f76a1aea1ebd023da61ab14b4e8ef9681b8770abb8d092d5d998522", checked := Try.checked }
namespace Rows
def none {H : Type} : Left H := { results := [], args := [] }

/-- 'rubricatorlaw07.MetaPuts': WHATEVER THE INPUT: true; the input reads as it did. -/
def metaPutsSpec : ChangeSpec := { name := "metaPuts", fn := fun _ => fun
  | [d1, d2] => { results := [.lit (.bool true)], args := [d1, d2] }
  | _ => none }
def metaPutsRow : OpenClaim := { program := "ytpipgeboddaipaa", sum := "8f0993353f76a1aea1ebd023da61ab14b4e8ef9681b8770abb8d092d5d998522", func := "rubricator/rubricatorlaw07.MetaPuts", spec := "metaPuts", apart := false }
def MetaPutsSaid : Prop := metaPutsRow.holds Try.pinned (OpenSpec.ofChange metaPutsSpec)

/-- ITS FALSE NEIGHBOUR: 'it returns false'. Refute it at one input. -/
def metaPutsWrong : ChangeSpec := { name := "metaPuts", fn := fun _ => fun
  | [d1, d2] => { results := [.lit (.bool false)], args := [d1, d2] }
  | _ => none }
def MetaPutsWrongFalsely : Prop := metaPutsRow.holds Try.pinned (OpenSpec.ofChange metaPutsWrong)

/-- 'rubricatorlaw07.MetaGets': WHATEVER THE INPUT: true; the input reads as it did. -/
def metaGetsSpec : ChangeSpec := { name := "metaGets", fn := fun _ => fun
  | [d1, d2, d3, d4, d5] => { results := [.lit (.bool true)], args := [d1, d2, d3, d4, d5] }
  | _ => none }
def metaGetsRow : OpenClaim := { program := "ytpipgeboddaipaa", sum := "8f0993353f76a1aea1ebd023da61ab14b4e8ef9681b8770abb8d092d5d998522", func := "rubricator/rubricatorlaw07.MetaGets", spec := "metaGets", apart := false }
def MetaGetsSaid : Prop := metaGetsRow.holds Try.pinned (OpenSpec.ofChange metaGetsSpec)

/-- ITS FALSE NEIGHBOUR: 'it returns false'. Refute it at one input. -/
def metaGetsWrong : ChangeSpec := { name := "metaGets", fn := fun _ => fun
  | [d1, d2, d3, d4, d5] => { results := [.lit (.bool false)], args := [d1, d2, d3, d4, d5] }
  | _ => none }
def MetaGetsWrongFalsely : Prop := metaGetsRow.holds Try.pinned (OpenSpec.ofChange metaGetsWrong)

/-- 'rubricatorlaw07.MetaChooses': WHATEVER THE INPUT: true; the input reads as it did. -/
def metaChoosesSpec : ChangeSpec := { name := "metaChooses", fn := fun _ => fun
  | [d1, d2, d3, d4, d5] => { results := [.lit (.bool true)], args := [d1, d2, d3, d4, d5] }
  | _ => none }
def metaChoosesRow : OpenClaim := { program := "ytpipgeboddaipaa", sum := "8f0993353f76a1aea1ebd023da61ab14b4e8ef9681b8770abb8d092d5d998522", func := "rubricator/rubricatorlaw07.MetaChooses", spec := "metaChooses", apart := false }
def MetaChoosesSaid : Prop := metaChoosesRow.holds Try.pinned (OpenSpec.ofChange metaChoosesSpec)

/-- ITS FALSE NEIGHBOUR: 'it returns false'. Refute it at one input. -/
def metaChoosesWrong : ChangeSpec := { name := "metaChooses", fn := fun _ => fun
  | [d1, d2, d3, d4, d5] => { results := [.lit (.bool false)], args := [d1, d2, d3, d4, d5] }
  | _ => none }
def MetaChoosesWrongFalsely : Prop := metaChoosesRow.holds Try.pinned (OpenSpec.ofChange metaChoosesWrong)

/-- 'rubricatorlaw07.MetaTurns': WHATEVER THE INPUT: true; the input reads as it did. -/
def metaTurnsSpec : ChangeSpec := { name := "metaTurns", fn := fun _ => fun
  | [d1, d2, d3, d4, d5] => { results := [.lit (.bool true)], args := [d1, d2, d3, d4, d5] }
  | _ => none }
def metaTurnsRow : OpenClaim := { program := "ytpipgeboddaipaa", sum := "8f0993353f76a1aea1ebd023da61ab14b4e8ef9681b8770abb8d092d5d998522", func := "rubricator/rubricatorlaw07.MetaTurns", spec := "metaTurns", apart := false }
def MetaTurnsSaid : Prop := metaTurnsRow.holds Try.pinned (OpenSpec.ofChange metaTurnsSpec)

/-- ITS FALSE NEIGHBOUR: 'it returns false'. Refute it at one input. -/
def metaTurnsWrong : ChangeSpec := { name := "metaTurns", fn := fun _ => fun
  | [d1, d2, d3, d4, d5] => { results := [.lit (.bool false)], args := [d1, d2, d3, d4, d5] }
  | _ => none }
def MetaTurnsWrongFalsely : Prop := metaTurnsRow.holds Try.pinned (OpenSpec.ofChange metaTurnsWrong)

/-- 'rubricatorlaw07.MetaSector': WHATEVER THE INPUT: true; the input reads as it did. -/
def metaSectorSpec : ChangeSpec := { name := "metaSector", fn := fun _ => fun
  | [d1, d2, d3] => { results := [.lit (.bool true)], args := [d1, d2, d3] }
  | _ => none }
def metaSectorRow : OpenClaim := { program := "ytpipgeboddaipaa", sum := "8f0993353f76a1aea1ebd023da61ab14b4e8ef9681b8770abb8d092d5d998522", func := "rubricator/rubricatorlaw07.MetaSector", spec := "metaSector", apart := false }
def MetaSectorSaid : Prop := metaSectorRow.holds Try.pinned (OpenSpec.ofChange metaSectorSpec)

/-- ITS FALSE NEIGHBOUR: 'it returns false'. Refute it at one input. -/
def metaSectorWrong : ChangeSpec := { name := "metaSector", fn := fun _ => fun
  | [d1, d2, d3] => { results := [.lit (.bool false)], args := [d1, d2, d3] }
  | _ => none }
def MetaSectorWrongFalsely : Prop := metaSectorRow.holds Try.pinned (OpenSpec.ofChange metaSectorWrong)

/-- 'rubricatorlaw07.MetaNewer': WHATEVER THE INPUT: true; the input reads as it did. -/
def metaNewerSpec : ChangeSpec := { name := "metaNewer", fn := fun _ => fun
  | [d1, d2, d3] => { results := [.lit (.bool true)], args := [d1, d2, d3] }
  | _ => none }
def metaNewerRow : OpenClaim := { program := "ytpipgeboddaipaa", sum := "8f0993353f76a1aea1ebd023da61ab14b4e8ef9681b8770abb8d092d5d998522", func := "rubricator/rubricatorlaw07.MetaNewer", spec := "metaNewer", apart := false }
def MetaNewerSaid : Prop := metaNewerRow.holds Try.pinned (OpenSpec.ofChange metaNewerSpec)

/-- ITS FALSE NEIGHBOUR: 'it returns false'. Refute it at one input. -/
def metaNewerWrong : ChangeSpec := { name := "metaNewer", fn := fun _ => fun
  | [d1, d2, d3] => { results := [.lit (.bool false)], args := [d1, d2, d3] }
  | _ => none }
def MetaNewerWrongFalsely : Prop := metaNewerRow.holds Try.pinned (OpenSpec.ofChange metaNewerWrong)

/-- 'rubricatorlaw07.MetaSpoiled': WHATEVER THE INPUT: true; the input reads as it did. -/
def metaSpoiledSpec : ChangeSpec := { name := "metaSpoiled", fn := fun _ => fun
  | [d1, d2, d3] => { results := [.lit (.bool true)], args := [d1, d2, d3] }
  | _ => none }
def metaSpoiledRow : OpenClaim := { program := "ytpipgeboddaipaa", sum := "8f0993353f76a1aea1ebd023da61ab14b4e8ef9681b8770abb8d092d5d998522", func := "rubricator/rubricatorlaw07.MetaSpoiled", spec := "metaSpoiled", apart := false }
def MetaSpoiledSaid : Prop := metaSpoiledRow.holds Try.pinned (OpenSpec.ofChange metaSpoiledSpec)

/-- ITS FALSE NEIGHBOUR: 'it returns false'. Refute it at one input. -/
def metaSpoiledWrong : ChangeSpec := { name := "metaSpoiled", fn := fun _ => fun
  | [d1, d2, d3] => { results := [.lit (.bool false)], args := [d1, d2, d3] }
  | _ => none }
def MetaSpoiledWrongFalsely : Prop := metaSpoiledRow.holds Try.pinned (OpenSpec.ofChange metaSpoiledWrong)

/- THE SECOND FORM. 'bulk': how many values and letters a reading holds, each counted each time it is reached (what is shared counts as often as it is met; a slice's spare places count too). A statement '..UptoSaid' is the law's where the arguments, and the package variables that the reading takes, are together of bulk at most 1048576: NARROWER than '..Said'. Prove '..Said' where nothing that the law and all that it calls make is longer than what came in: it says more and counts as full. Else prove '..UptoSaid'. A law counts once. -/
mutual
def uptoBulk {H : Type} : DataW H → Nat
  | .lit (.string bytes) => bytes.length + 1
  | .lit _ => 1
  | .nil => 1
  | .ptr d => uptoBulk d + 1
  | .slice elems spare => uptoBulkAll elems + uptoBulkAll spare + 1
  | .agg parts => uptoBulkAll parts + 1
  | .iface _ d => uptoBulk d + 1
  | .map entries => uptoBulkEntries entries + 1
  | .held _ => 1
def uptoBulkAll {H : Type} : List (DataW H) → Nat
  | [] => 0
  | d :: r => uptoBulk d + uptoBulkAll r
def uptoBulkEntries {H : Type} : List (Lit × DataW H) → Nat
  | [] => 0
  | x :: r => uptoBulkEntry x + uptoBulkEntries r
def uptoBulkEntry {H : Type} : Lit × DataW H → Nat
  | (.string bytes, d) => bytes.length + uptoBulk d + 1
  | (_, d) => uptoBulk d + 1
 end
def uptoSmall : (H : Type) → List (DataW H) → Bool := fun _ ds => decide (uptoBulkAll ds ≤ 1048576)
def OpenSpec.upto (s : _root_.Go.ChangeSpec) : _root_.Go.OpenSpec := { _root_.Go.OpenSpec.ofChange s with cond := some uptoSmall }

/-- 'rubricatorlaw07.MetaPuts', WHERE WHAT IT READS IS OF BULK AT MOST 1048576: true; the input reads as it did. -/
def metaPutsUptoRow : OpenClaim := { program := "ytpipgeboddaipaa", sum := "8f0993353f76a1aea1ebd023da61ab14b4e8ef9681b8770abb8d092d5d998522", func := "rubricator/rubricatorlaw07.MetaPuts", spec := "metaPuts", apart := false, narrowed := true }
def MetaPutsUptoSaid : Prop := metaPutsUptoRow.holds Try.pinned (OpenSpec.upto metaPutsSpec)

/-- 'rubricatorlaw07.MetaGets', WHERE WHAT IT READS IS OF BULK AT MOST 1048576: true; the input reads as it did. -/
def metaGetsUptoRow : OpenClaim := { program := "ytpipgeboddaipaa", sum := "8f0993353f76a1aea1ebd023da61ab14b4e8ef9681b8770abb8d092d5d998522", func := "rubricator/rubricatorlaw07.MetaGets", spec := "metaGets", apart := false, narrowed := true }
def MetaGetsUptoSaid : Prop := metaGetsUptoRow.holds Try.pinned (OpenSpec.upto metaGetsSpec)

/-- 'rubricatorlaw07.MetaChooses', WHERE WHAT IT READS IS OF BULK AT MOST 1048576: true; the input reads as it did. -/
def metaChoosesUptoRow : OpenClaim := { program := "ytpipgeboddaipaa", sum := "8f0993353f76a1aea1ebd023da61ab14b4e8ef9681b8770abb8d092d5d998522", func := "rubricator/rubricatorlaw07.MetaChooses", spec := "metaChooses", apart := false, narrowed := true }
def MetaChoosesUptoSaid : Prop := metaChoosesUptoRow.holds Try.pinned (OpenSpec.upto metaChoosesSpec)

/-- 'rubricatorlaw07.MetaTurns', WHERE WHAT IT READS IS OF BULK AT MOST 1048576: true; the input reads as it did. -/
def metaTurnsUptoRow : OpenClaim := { program := "ytpipgeboddaipaa", sum := "8f0993353f76a1aea1ebd023da61ab14b4e8ef9681b8770abb8d092d5d998522", func := "rubricator/rubricatorlaw07.MetaTurns", spec := "metaTurns", apart := false, narrowed := true }
def MetaTurnsUptoSaid : Prop := metaTurnsUptoRow.holds Try.pinned (OpenSpec.upto metaTurnsSpec)

/-- 'rubricatorlaw07.MetaSector', WHERE WHAT IT READS IS OF BULK AT MOST 1048576: true; the input reads as it did. -/
def metaSectorUptoRow : OpenClaim := { program := "ytpipgeboddaipaa", sum := "8f0993353f76a1aea1ebd023da61ab14b4e8ef9681b8770abb8d092d5d998522", func := "rubricator/rubricatorlaw07.MetaSector", spec := "metaSector", apart := false, narrowed := true }
def MetaSectorUptoSaid : Prop := metaSectorUptoRow.holds Try.pinned (OpenSpec.upto metaSectorSpec)

/-- 'rubricatorlaw07.MetaNewer', WHERE WHAT IT READS IS OF BULK AT MOST 1048576: true; the input reads as it did. -/
def metaNewerUptoRow : OpenClaim := { program := "ytpipgeboddaipaa", sum := "8f0993353f76a1aea1ebd023da61ab14b4e8ef9681b8770abb8d092d5d998522", func := "rubricator/rubricatorlaw07.MetaNewer", spec := "metaNewer", apart := false, narrowed := true }
def MetaNewerUptoSaid : Prop := metaNewerUptoRow.holds Try.pinned (OpenSpec.upto metaNewerSpec)

/-- 'rubricatorlaw07.MetaSpoiled', WHERE WHAT IT READS IS OF BULK AT MOST 1048576: true; the input reads as it did. -/
def metaSpoiledUptoRow : OpenClaim := { program := "ytpipgeboddaipaa", sum := "8f0993353f76a1aea1ebd023da61ab14b4e8ef9681b8770abb8d092d5d998522", func := "rubricator/rubricatorlaw07.MetaSpoiled", spec := "metaSpoiled", apart := false, narrowed := true }
def MetaSpoiledUptoSaid : Prop := metaSpoiledUptoRow.holds Try.pinned (OpenSpec.upto metaSpoiledSpec)

end Rows
end Go.Proofs.Ytpipgeboddaipaa
