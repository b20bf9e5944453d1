/-
  No cell of these rows narrows 'for every input' (looked for: loops, veiled, ifaces, maps, wideKeys, modest, calm, conditions, laid).
  DERIVED. THE GIVEN ROWS OF THIS SEAT. 11 by the template 'for every input the law returns true; each argument reads behind the call as it read before'; 0 by the template 'total and deterministic' (their statements: YthijobbhpbklmaaTotals.lean).
  GIVEN WITH THE SEED: the statements are not yours to turn. If you find one false, say at which input.
  Laid BY PROGRAM, IN A SANDBOX (cutbox-rows.mjs): the forced cells as the released guide's own fill.sh prints them over the translation c234987a589c49a8… (all of the seat's roots in one cut). By AI agents, Wed Nov 11 2026. No macro, syntax, notation, axiom, sorry.
-/
import Derived.Test.YthijobbhpbklmaaChecked
import GoSem.Claim
import GoSem.ClaimJoined
import GoSem.ClaimMapViews
import Derived.JoinedTies
import Derived.KernelRfl
namespace Go.Proofs.Ythijobbhpbklmaa
/- THE CELL 'sum', in the pinned program and in every row, IS THE sha256 OF THE DUMP (.gsa) THAT YthijobbhpbklmaaProg.lean LOADS. Nothing in Lean hashes anything: it is a label: what it is worth is what the hold of that sum in a sandbox is worth. -/
noncomputable def Try.pinned : Pinned := { name := "ythijobbhpbklmaa", sum := "c234987a589c49a8ca72afb1574330a06bd4a56be2afa9ead155dac35d454775", checked := Try.checked }
namespace Rows
def none {H : Type} : Left H := { results := [], args := [] }

/-- 'rubricatorlaw03.DiskMakes': WHATEVER THE INPUT: true; the input reads as it did. -/
def diskMakesSpec : ChangeSpec := { name := "diskMakes", fn := fun _ => fun
  | [d1, d2, d3] => { results := [.lit (.bool true)], args := [d1, d2, d3] }
  | _ => none }
def diskMakesRow : OpenClaim := { program := "ythijobbhpbklmaa", sum := "c234987a589c49a8ca72afb1574330a06bd4a56be2afa9ead155dac35d454775", func := "rubricator/rubricatorlaw03.DiskMakes", spec := "diskMakes", inPlace := ["sync/atomic.AddInt64", "sync/atomic.LoadUint32", "(*internal/sync.Mutex).Lock", "internal/race.Disable", "sync/atomic.CompareAndSwapInt32", "internal/race.Enable", "internal/race.Acquire", "(*internal/sync.Mutex).lockSlow", "internal/sync.runtime_canSpin", "internal/sync.runtime_doSpin", "internal/sync.throw", "internal/sync.runtime_nanotime", "internal/sync.runtime_SemacquireMutex", "sync/atomic.AddInt32", "(*internal/sync.Mutex).Unlock", "internal/race.ReleaseMerge", "(*internal/sync.Mutex).unlockSlow", "internal/sync.fatal", "internal/sync.runtime_Semrelease", "sync/atomic.StoreUint32", "sync/atomic.LoadInt64"], unfollowed := true, recurses := true, apart := false }
def DiskMakesSaid : Prop := diskMakesRow.holds Try.pinned (OpenSpec.ofChange diskMakesSpec)

/-- ITS FALSE NEIGHBOUR: 'it returns false'. Refute it at one input. -/
def diskMakesWrong : ChangeSpec := { name := "diskMakes", fn := fun _ => fun
  | [d1, d2, d3] => { results := [.lit (.bool false)], args := [d1, d2, d3] }
  | _ => none }
def DiskMakesWrongFalsely : Prop := diskMakesRow.holds Try.pinned (OpenSpec.ofChange diskMakesWrong)

/-- 'rubricatorlaw03.DiskSectors': WHATEVER THE INPUT: true; the input reads as it did. -/
def diskSectorsSpec : ChangeSpec := { name := "diskSectors", fn := fun _ => fun
  | [d1, d2, d3] => { results := [.lit (.bool true)], args := [d1, d2, d3] }
  | _ => none }
def diskSectorsRow : OpenClaim := { program := "ythijobbhpbklmaa", sum := "c234987a589c49a8ca72afb1574330a06bd4a56be2afa9ead155dac35d454775", func := "rubricator/rubricatorlaw03.DiskSectors", spec := "diskSectors", inPlace := ["sync/atomic.AddInt64", "sync/atomic.LoadUint32", "(*internal/sync.Mutex).Lock", "internal/race.Disable", "sync/atomic.CompareAndSwapInt32", "internal/race.Enable", "internal/race.Acquire", "(*internal/sync.Mutex).lockSlow", "internal/sync.runtime_canSpin", "internal/sync.runtime_doSpin", "internal/sync.throw", "internal/sync.runtime_nanotime", "internal/sync.runtime_SemacquireMutex", "sync/atomic.AddInt32", "(*internal/sync.Mutex).Unlock", "internal/race.ReleaseMerge", "(*internal/sync.Mutex).unlockSlow", "internal/sync.fatal", "internal/sync.runtime_Semrelease", "sync/atomic.StoreUint32", "sync/atomic.LoadInt64"], unfollowed := true, recurses := true, apart := false }
def DiskSectorsSaid : Prop := diskSectorsRow.holds Try.pinned (OpenSpec.ofChange diskSectorsSpec)

/-- ITS FALSE NEIGHBOUR: 'it returns false'. Refute it at one input. -/
def diskSectorsWrong : ChangeSpec := { name := "diskSectors", fn := fun _ => fun
  | [d1, d2, d3] => { results := [.lit (.bool false)], args := [d1, d2, d3] }
  | _ => none }
def DiskSectorsWrongFalsely : Prop := diskSectorsRow.holds Try.pinned (OpenSpec.ofChange diskSectorsWrong)

/-- 'rubricatorlaw03.DiskLast': WHATEVER THE INPUT: true; the input reads as it did. -/
def diskLastSpec : ChangeSpec := { name := "diskLast", fn := fun _ => fun
  | [d1, d2, d3] => { results := [.lit (.bool true)], args := [d1, d2, d3] }
  | _ => none }
def diskLastRow : OpenClaim := { program := "ythijobbhpbklmaa", sum := "c234987a589c49a8ca72afb1574330a06bd4a56be2afa9ead155dac35d454775", func := "rubricator/rubricatorlaw03.DiskLast", spec := "diskLast", inPlace := ["sync/atomic.AddInt64", "sync/atomic.LoadUint32", "(*internal/sync.Mutex).Lock", "internal/race.Disable", "sync/atomic.CompareAndSwapInt32", "internal/race.Enable", "internal/race.Acquire", "(*internal/sync.Mutex).lockSlow", "internal/sync.runtime_canSpin", "internal/sync.runtime_doSpin", "internal/sync.throw", "internal/sync.runtime_nanotime", "internal/sync.runtime_SemacquireMutex", "sync/atomic.AddInt32", "(*internal/sync.Mutex).Unlock", "internal/race.ReleaseMerge", "(*internal/sync.Mutex).unlockSlow", "internal/sync.fatal", "internal/sync.runtime_Semrelease", "sync/atomic.StoreUint32", "sync/atomic.LoadInt64"], unfollowed := true, recurses := true, apart := false }
def DiskLastSaid : Prop := diskLastRow.holds Try.pinned (OpenSpec.ofChange diskLastSpec)

/-- ITS FALSE NEIGHBOUR: 'it returns false'. Refute it at one input. -/
def diskLastWrong : ChangeSpec := { name := "diskLast", fn := fun _ => fun
  | [d1, d2, d3] => { results := [.lit (.bool false)], args := [d1, d2, d3] }
  | _ => none }
def DiskLastWrongFalsely : Prop := diskLastRow.holds Try.pinned (OpenSpec.ofChange diskLastWrong)

/-- 'rubricatorlaw03.DiskFails': WHATEVER THE INPUT: true; the input reads as it did. -/
def diskFailsSpec : ChangeSpec := { name := "diskFails", fn := fun _ => fun
  | [d1, d2] => { results := [.lit (.bool true)], args := [d1, d2] }
  | _ => none }
def diskFailsRow : OpenClaim := { program := "ythijobbhpbklmaa", sum := "c234987a589c49a8ca72afb1574330a06bd4a56be2afa9ead155dac35d454775", func := "rubricator/rubricatorlaw03.DiskFails", spec := "diskFails", inPlace := ["sync/atomic.AddInt64", "sync/atomic.LoadUint32", "(*internal/sync.Mutex).Lock", "internal/race.Disable", "sync/atomic.CompareAndSwapInt32", "internal/race.Enable", "internal/race.Acquire", "(*internal/sync.Mutex).lockSlow", "internal/sync.runtime_canSpin", "internal/sync.runtime_doSpin", "internal/sync.throw", "internal/sync.runtime_nanotime", "internal/sync.runtime_SemacquireMutex", "sync/atomic.AddInt32", "(*internal/sync.Mutex).Unlock", "internal/race.ReleaseMerge", "(*internal/sync.Mutex).unlockSlow", "internal/sync.fatal", "internal/sync.runtime_Semrelease", "sync/atomic.StoreUint32", "sync/atomic.LoadInt64"], unfollowed := true, recurses := true, apart := false }
def DiskFailsSaid : Prop := diskFailsRow.holds Try.pinned (OpenSpec.ofChange diskFailsSpec)

/-- ITS FALSE NEIGHBOUR: 'it returns false'. Refute it at one input. -/
def diskFailsWrong : ChangeSpec := { name := "diskFails", fn := fun _ => fun
  | [d1, d2] => { results := [.lit (.bool false)], args := [d1, d2] }
  | _ => none }
def DiskFailsWrongFalsely : Prop := diskFailsRow.holds Try.pinned (OpenSpec.ofChange diskFailsWrong)

/-- 'rubricatorlaw03.DiskOwn': WHATEVER THE INPUT: true; the input reads as it did. -/
def diskOwnSpec : ChangeSpec := { name := "diskOwn", fn := fun _ => fun
  | [d1, d2] => { results := [.lit (.bool true)], args := [d1, d2] }
  | _ => none }
def diskOwnRow : OpenClaim := { program := "ythijobbhpbklmaa", sum := "c234987a589c49a8ca72afb1574330a06bd4a56be2afa9ead155dac35d454775", func := "rubricator/rubricatorlaw03.DiskOwn", spec := "diskOwn", inPlace := ["sync/atomic.AddInt64", "sync/atomic.LoadUint32", "(*internal/sync.Mutex).Lock", "internal/race.Disable", "sync/atomic.CompareAndSwapInt32", "internal/race.Enable", "internal/race.Acquire", "(*internal/sync.Mutex).lockSlow", "internal/sync.runtime_canSpin", "internal/sync.runtime_doSpin", "internal/sync.throw", "internal/sync.runtime_nanotime", "internal/sync.runtime_SemacquireMutex", "sync/atomic.AddInt32", "(*internal/sync.Mutex).Unlock", "internal/race.ReleaseMerge", "(*internal/sync.Mutex).unlockSlow", "internal/sync.fatal", "internal/sync.runtime_Semrelease", "sync/atomic.StoreUint32", "sync/atomic.LoadInt64"], unfollowed := true, recurses := true, apart := false }
def DiskOwnSaid : Prop := diskOwnRow.holds Try.pinned (OpenSpec.ofChange diskOwnSpec)

/-- ITS FALSE NEIGHBOUR: 'it returns false'. Refute it at one input. -/
def diskOwnWrong : ChangeSpec := { name := "diskOwn", fn := fun _ => fun
  | [d1, d2] => { results := [.lit (.bool false)], args := [d1, d2] }
  | _ => none }
def DiskOwnWrongFalsely : Prop := diskOwnRow.holds Try.pinned (OpenSpec.ofChange diskOwnWrong)

/-- 'rubricatorlaw03.DiskPlays': WHATEVER THE INPUT: true; the input reads as it did. -/
def diskPlaysSpec : ChangeSpec := { name := "diskPlays", fn := fun _ => fun
  | [d1, d2, d3, d4] => { results := [.lit (.bool true)], args := [d1, d2, d3, d4] }
  | _ => none }
def diskPlaysRow : OpenClaim := { program := "ythijobbhpbklmaa", sum := "c234987a589c49a8ca72afb1574330a06bd4a56be2afa9ead155dac35d454775", func := "rubricator/rubricatorlaw03.DiskPlays", spec := "diskPlays", inPlace := ["sync/atomic.AddInt64", "sync/atomic.LoadUint32", "(*internal/sync.Mutex).Lock", "internal/race.Disable", "sync/atomic.CompareAndSwapInt32", "internal/race.Enable", "internal/race.Acquire", "(*internal/sync.Mutex).lockSlow", "internal/sync.runtime_canSpin", "internal/sync.runtime_doSpin", "internal/sync.throw", "internal/sync.runtime_nanotime", "internal/sync.runtime_SemacquireMutex", "sync/atomic.AddInt32", "(*internal/sync.Mutex).Unlock", "internal/race.ReleaseMerge", "(*internal/sync.Mutex).unlockSlow", "internal/sync.fatal", "internal/sync.runtime_Semrelease", "sync/atomic.StoreUint32", "sync/atomic.LoadInt64"], unfollowed := true, recurses := true, apart := false }
def DiskPlaysSaid : Prop := diskPlaysRow.holds Try.pinned (OpenSpec.ofChange diskPlaysSpec)

/-- ITS FALSE NEIGHBOUR: 'it returns false'. Refute it at one input. -/
def diskPlaysWrong : ChangeSpec := { name := "diskPlays", fn := fun _ => fun
  | [d1, d2, d3, d4] => { results := [.lit (.bool false)], args := [d1, d2, d3, d4] }
  | _ => none }
def DiskPlaysWrongFalsely : Prop := diskPlaysRow.holds Try.pinned (OpenSpec.ofChange diskPlaysWrong)

/-- 'rubricatorlaw08.SpacePlays': WHATEVER THE INPUT: true; the input reads as it did. -/
def spacePlaysSpec : ChangeSpec := { name := "spacePlays", fn := fun _ => fun
  | [d1, d2, d3, d4, d5, d6] => { results := [.lit (.bool true)], args := [d1, d2, d3, d4, d5, d6] }
  | _ => none }
def spacePlaysRow : OpenClaim := { program := "ythijobbhpbklmaa", sum := "c234987a589c49a8ca72afb1574330a06bd4a56be2afa9ead155dac35d454775", func := "rubricator/rubricatorlaw08.SpacePlays", spec := "spacePlays", unfollowed := true, recurses := true, apart := false }
def SpacePlaysSaid : Prop := spacePlaysRow.holds Try.pinned (OpenSpec.ofChange spacePlaysSpec)

/-- ITS FALSE NEIGHBOUR: 'it returns false'. Refute it at one input. -/
def spacePlaysWrong : ChangeSpec := { name := "spacePlays", fn := fun _ => fun
  | [d1, d2, d3, d4, d5, d6] => { results := [.lit (.bool false)], args := [d1, d2, d3, d4, d5, d6] }
  | _ => none }
def SpacePlaysWrongFalsely : Prop := spacePlaysRow.holds Try.pinned (OpenSpec.ofChange spacePlaysWrong)

/-- 'rubricatorlaw08.SpaceApart': WHATEVER THE INPUT: true; the input reads as it did. -/
def spaceApartSpec : ChangeSpec := { name := "spaceApart", fn := fun _ => fun
  | [d1, d2, d3] => { results := [.lit (.bool true)], args := [d1, d2, d3] }
  | _ => none }
def spaceApartRow : OpenClaim := { program := "ythijobbhpbklmaa", sum := "c234987a589c49a8ca72afb1574330a06bd4a56be2afa9ead155dac35d454775", func := "rubricator/rubricatorlaw08.SpaceApart", spec := "spaceApart", unfollowed := true, recurses := true, apart := false }
def SpaceApartSaid : Prop := spaceApartRow.holds Try.pinned (OpenSpec.ofChange spaceApartSpec)

/-- ITS FALSE NEIGHBOUR: 'it returns false'. Refute it at one input. -/
def spaceApartWrong : ChangeSpec := { name := "spaceApart", fn := fun _ => fun
  | [d1, d2, d3] => { results := [.lit (.bool false)], args := [d1, d2, d3] }
  | _ => none }
def SpaceApartWrongFalsely : Prop := spaceApartRow.holds Try.pinned (OpenSpec.ofChange spaceApartWrong)

/-- 'rubricatorlaw08.SpaceFull': WHATEVER THE INPUT: true; the input reads as it did. -/
def spaceFullSpec : ChangeSpec := { name := "spaceFull", fn := fun _ => fun
  | [d1, d2, d3] => { results := [.lit (.bool true)], args := [d1, d2, d3] }
  | _ => none }
def spaceFullRow : OpenClaim := { program := "ythijobbhpbklmaa", sum := "c234987a589c49a8ca72afb1574330a06bd4a56be2afa9ead155dac35d454775", func := "rubricator/rubricatorlaw08.SpaceFull", spec := "spaceFull", unfollowed := true, recurses := true, apart := false }
def SpaceFullSaid : Prop := spaceFullRow.holds Try.pinned (OpenSpec.ofChange spaceFullSpec)

/-- ITS FALSE NEIGHBOUR: 'it returns false'. Refute it at one input. -/
def spaceFullWrong : ChangeSpec := { name := "spaceFull", fn := fun _ => fun
  | [d1, d2, d3] => { results := [.lit (.bool false)], args := [d1, d2, d3] }
  | _ => none }
def SpaceFullWrongFalsely : Prop := spaceFullRow.holds Try.pinned (OpenSpec.ofChange spaceFullWrong)

/-- 'rubricatorlaw08.SpaceBack': WHATEVER THE INPUT: true; the input reads as it did. -/
def spaceBackSpec : ChangeSpec := { name := "spaceBack", fn := fun _ => fun
  | [d1, d2, d3] => { results := [.lit (.bool true)], args := [d1, d2, d3] }
  | _ => none }
def spaceBackRow : OpenClaim := { program := "ythijobbhpbklmaa", sum := "c234987a589c49a8ca72afb1574330a06bd4a56be2afa9ead155dac35d454775", func := "rubricator/rubricatorlaw08.SpaceBack", spec := "spaceBack", unfollowed := true, recurses := true, apart := false }
def SpaceBackSaid : Prop := spaceBackRow.holds Try.pinned (OpenSpec.ofChange spaceBackSpec)

/-- ITS FALSE NEIGHBOUR: 'it returns false'. Refute it at one input. -/
def spaceBackWrong : ChangeSpec := { name := "spaceBack", fn := fun _ => fun
  | [d1, d2, d3] => { results := [.lit (.bool false)], args := [d1, d2, d3] }
  | _ => none }
def SpaceBackWrongFalsely : Prop := spaceBackRow.holds Try.pinned (OpenSpec.ofChange spaceBackWrong)

/-- 'rubricatorlaw08.SpaceOlder': WHATEVER THE INPUT: true; the input reads as it did. -/
def spaceOlderSpec : ChangeSpec := { name := "spaceOlder", fn := fun _ => fun
  | [d1, d2, d3] => { results := [.lit (.bool true)], args := [d1, d2, d3] }
  | _ => none }
def spaceOlderRow : OpenClaim := { program := "ythijobbhpbklmaa", sum := "c234987a589c49a8ca72afb1574330a06bd4a56be2afa9ead155dac35d454775", func := "rubricator/rubricatorlaw08.SpaceOlder", spec := "spaceOlder", unfollowed := true, recurses := true, apart := false }
def SpaceOlderSaid : Prop := spaceOlderRow.holds Try.pinned (OpenSpec.ofChange spaceOlderSpec)

/-- ITS FALSE NEIGHBOUR: 'it returns false'. Refute it at one input. -/
def spaceOlderWrong : ChangeSpec := { name := "spaceOlder", fn := fun _ => fun
  | [d1, d2, d3] => { results := [.lit (.bool false)], args := [d1, d2, d3] }
  | _ => none }
def SpaceOlderWrongFalsely : Prop := spaceOlderRow.holds Try.pinned (OpenSpec.ofChange spaceOlderWrong)

/- THE SECOND FORM. 'bulk': how many values and letters a reading holds, each counted each time it is reached (what is shared counts as often as it is met; a slice's spare places count too). A statement '..UptoSaid' is the law's where the arguments, and the package variables that the reading takes, are together of bulk at most 1048576: NARROWER than '..Said'. Prove '..Said' where nothing that the law and all that it calls make is longer than what came in: it says more and counts as full. Else prove '..UptoSaid'. A law counts once. -/
mutual
def uptoBulk {H : Type} : DataW H → Nat
  | .lit (.string bytes) => bytes.length + 1
  | .lit _ => 1
  | .nil => 1
  | .ptr d => uptoBulk d + 1
  | .slice elems spare => uptoBulkAll elems + uptoBulkAll spare + 1
  | .agg parts => uptoBulkAll parts + 1
  | .iface _ d => uptoBulk d + 1
  | .map entries => uptoBulkEntries entries + 1
  | .held _ => 1
def uptoBulkAll {H : Type} : List (DataW H) → Nat
  | [] => 0
  | d :: r => uptoBulk d + uptoBulkAll r
def uptoBulkEntries {H : Type} : List (Lit × DataW H) → Nat
  | [] => 0
  | x :: r => uptoBulkEntry x + uptoBulkEntries r
def uptoBulkEntry {H : Type} : Lit × DataW H → Nat
  | (.string bytes, d) => bytes.length + uptoBulk d + 1
  | (_, d) => uptoBulk d + 1
 end
def uptoSmall : (H : Type) → List (DataW H) → Bool := fun _ ds => decide (uptoBulkAll ds ≤ 1048576)
def OpenSpec.upto (s : _root_.Go.ChangeSpec) : _root_.Go.OpenSpec := { _root_.Go.OpenSpec.ofChange s with cond := some uptoSmall }

/-- 'rubricatorlaw03.DiskMakes', WHERE WHAT IT READS IS OF BULK AT MOST 1048576: true; the input reads as it did. -/
def diskMakesUptoRow : OpenClaim := { program := "ythijobbhpbklmaa", sum := "c234987a589c49a8ca72afb1574330a06bd4a56be2afa9ead155dac35d454775", func := "rubricator/rubricatorlaw03.DiskMakes", spec := "diskMakes", inPlace := ["sync/atomic.AddInt64", "sync/atomic.LoadUint32", "(*internal/sync.Mutex).Lock", "internal/race.Disable", "sync/atomic.CompareAndSwapInt32", "internal/race.Enable", "internal/race.Acquire", "(*internal/sync.Mutex).lockSlow", "internal/sync.runtime_canSpin", "internal/sync.runtime_doSpin", "internal/sync.throw", "internal/sync.runtime_nanotime", "internal/sync.runtime_SemacquireMutex", "sync/atomic.AddInt32", "(*internal/sync.Mutex).Unlock", "internal/race.ReleaseMerge", "(*internal/sync.Mutex).unlockSlow", "internal/sync.fatal", "internal/sync.runtime_Semrelease", "sync/atomic.StoreUint32", "sync/atomic.LoadInt64"], unfollowed := true, recurses := true, apart := false, narrowed := true }
def DiskMakesUptoSaid : Prop := diskMakesUptoRow.holds Try.pinned (OpenSpec.upto diskMakesSpec)

/-- 'rubricatorlaw03.DiskSectors', WHERE WHAT IT READS IS OF BULK AT MOST 1048576: true; the input reads as it did. -/
def diskSectorsUptoRow : OpenClaim := { program := "ythijobbhpbklmaa", sum := "c234987a589c49a8ca72afb1574330a06bd4a56be2afa9ead155dac35d454775", func := "rubricator/rubricatorlaw03.DiskSectors", spec := "diskSectors", inPlace := ["sync/atomic.AddInt64", "sync/atomic.LoadUint32", "(*internal/sync.Mutex).Lock", "internal/race.Disable", "sync/atomic.CompareAndSwapInt32", "internal/race.Enable", "internal/race.Acquire", "(*internal/sync.Mutex).lockSlow", "internal/sync.runtime_canSpin", "internal/sync.runtime_doSpin", "internal/sync.throw", "internal/sync.runtime_nanotime", "internal/sync.runtime_SemacquireMutex", "sync/atomic.AddInt32", "(*internal/sync.Mutex).Unlock", "internal/race.ReleaseMerge", "(*internal/sync.Mutex).unlockSlow", "internal/sync.fatal", "internal/sync.runtime_Semrelease", "sync/atomic.StoreUint32", "sync/atomic.LoadInt64"], unfollowed := true, recurses := true, apart := false, narrowed := true }
def DiskSectorsUptoSaid : Prop := diskSectorsUptoRow.holds Try.pinned (OpenSpec.upto diskSectorsSpec)

/-- 'rubricatorlaw03.DiskLast', WHERE WHAT IT READS IS OF BULK AT MOST 1048576: true; the input reads as it did. -/
def diskLastUptoRow : OpenClaim := { program := "ythijobbhpbklmaa", sum := "c234987a589c49a8ca72afb1574330a06bd4a56be2afa9ead155dac35d454775", func := "rubricator/rubricatorlaw03.DiskLast", spec := "diskLast", inPlace := ["sync/atomic.AddInt64", "sync/atomic.LoadUint32", "(*internal/sync.Mutex).Lock", "internal/race.Disable", "sync/atomic.CompareAndSwapInt32", "internal/race.Enable", "internal/race.Acquire", "(*internal/sync.Mutex).lockSlow", "internal/sync.runtime_canSpin", "internal/sync.runtime_doSpin", "internal/sync.throw", "internal/sync.runtime_nanotime", "internal/sync.runtime_SemacquireMutex", "sync/atomic.AddInt32", "(*internal/sync.Mutex).Unlock", "internal/race.ReleaseMerge", "(*internal/sync.Mutex).unlockSlow", "internal/sync.fatal", "internal/sync.runtime_Semrelease", "sync/atomic.StoreUint32", "sync/atomic.LoadInt64"], unfollowed := true, recurses := true, apart := false, narrowed := true }
def DiskLastUptoSaid : Prop := diskLastUptoRow.holds Try.pinned (OpenSpec.upto diskLastSpec)

/-- 'rubricatorlaw03.DiskFails', WHERE WHAT IT READS IS OF BULK AT MOST 1048576: true; the input reads as it did. -/
def diskFailsUptoRow : OpenClaim := { program := "ythijobbhpbklmaa", sum := "c234987a589c49a8ca72afb1574330a06bd4a56be2afa9ead155dac35d454775", func := "rubricator/rubricatorlaw03.DiskFails", spec := "diskFails", inPlace := ["sync/atomic.AddInt64", "sync/atomic.LoadUint32", "(*internal/sync.Mutex).Lock", "internal/race.Disable", "sync/atomic.CompareAndSwapInt32", "internal/race.Enable", "internal/race.Acquire", "(*internal/sync.Mutex).lockSlow", "internal/sync.runtime_canSpin", "internal/sync.runtime_doSpin", "internal/sync.throw", "internal/sync.runtime_nanotime", "internal/sync.runtime_SemacquireMutex", "sync/atomic.AddInt32", "(*internal/sync.Mutex).Unlock", "internal/race.ReleaseMerge", "(*internal/sync.Mutex).unlockSlow", "internal/sync.fatal", "internal/sync.runtime_Semrelease", "sync/atomic.StoreUint32", "sync/atomic.LoadInt64"], unfollowed := true, recurses := true, apart := false, narrowed := true }
def DiskFailsUptoSaid : Prop := diskFailsUptoRow.holds Try.pinned (OpenSpec.upto diskFailsSpec)

/-- 'rubricatorlaw03.DiskOwn', WHERE WHAT IT READS IS OF BULK AT MOST 1048576: true; the input reads as it did. -/
def diskOwnUptoRow : OpenClaim := { program := "ythijobbhpbklmaa", sum := "c234987a589c49a8ca72afb1574330a06bd4a56be2afa9ead155dac35d454775", func := "rubricator/rubricatorlaw03.DiskOwn", spec := "diskOwn", inPlace := ["sync/atomic.AddInt64", "sync/atomic.LoadUint32", "(*internal/sync.Mutex).Lock", "internal/race.Disable", "sync/atomic.CompareAndSwapInt32", "internal/race.Enable", "internal/race.Acquire", "(*internal/sync.Mutex).lockSlow", "internal/sync.runtime_canSpin", "internal/sync.runtime_doSpin", "internal/sync.throw", "internal/sync.runtime_nanotime", "internal/sync.runtime_SemacquireMutex", "sync/atomic.AddInt32", "(*internal/sync.Mutex).Unlock", "internal/race.ReleaseMerge", "(*internal/sync.Mutex).unlockSlow", "internal/sync.fatal", "internal/sync.runtime_Semrelease", "sync/atomic.StoreUint32", "sync/atomic.LoadInt64"], unfollowed := true, recurses := true, apart := false, narrowed := true }
def DiskOwnUptoSaid : Prop := diskOwnUptoRow.holds Try.pinned (OpenSpec.upto diskOwnSpec)

/-- 'rubricatorlaw03.DiskPlays', WHERE WHAT IT READS IS OF BULK AT MOST 1048576: true; the input reads as it did. -/
def diskPlaysUptoRow : OpenClaim := { program := "ythijobbhpbklmaa", sum := "c234987a589c49a8ca72afb1574330a06bd4a56be2afa9ead155dac35d454775", func := "rubricator/rubricatorlaw03.DiskPlays", spec := "diskPlays", inPlace := ["sync/atomic.AddInt64", "sync/atomic.LoadUint32", "(*internal/sync.Mutex).Lock", "internal/race.Disable", "sync/atomic.CompareAndSwapInt32", "internal/race.Enable", "internal/race.Acquire", "(*internal/sync.Mutex).lockSlow", "internal/sync.runtime_canSpin", "internal/sync.runtime_doSpin", "internal/sync.throw", "internal/sync.runtime_nanotime", "internal/sync.runtime_SemacquireMutex", "sync/atomic.AddInt32", "(*internal/sync.Mutex).Unlock", "internal/race.ReleaseMerge", "(*internal/sync.Mutex).unlockSlow", "internal/sync.fatal", "internal/sync.runtime_Semrelease", "sync/atomic.StoreUint32", "sync/atomic.LoadInt64"], unfollowed := true, recurses := true, apart := false, narrowed := true }
def DiskPlaysUptoSaid : Prop := diskPlaysUptoRow.holds Try.pinned (OpenSpec.upto diskPlaysSpec)

/-- 'rubricatorlaw08.SpacePlays', WHERE WHAT IT READS IS OF BULK AT MOST 1048576: true; the input reads as it did. -/
def spacePlaysUptoRow : OpenClaim := { program := "ythijobbhpbklmaa", sum := "c234987a589c49a8ca72afb1574330a06bd4a56be2afa9ead155dac35d454775", func := "rubricator/rubricatorlaw08.SpacePlays", spec := "spacePlays", unfollowed := true, recurses := true, apart := false, narrowed := true }
def SpacePlaysUptoSaid : Prop := spacePlaysUptoRow.holds Try.pinned (OpenSpec.upto spacePlaysSpec)

/-- 'rubricatorlaw08.SpaceApart', WHERE WHAT IT READS IS OF BULK AT MOST 1048576: true; the input reads as it did. -/
def spaceApartUptoRow : OpenClaim := { program := "ythijobbhpbklmaa", sum := "c234987a589c49a8ca72afb1574330a06bd4a56be2afa9ead155dac35d454775", func := "rubricator/rubricatorlaw08.SpaceApart", spec := "spaceApart", unfollowed := true, recurses := true, apart := false, narrowed := true }
def SpaceApartUptoSaid : Prop := spaceApartUptoRow.holds Try.pinned (OpenSpec.upto spaceApartSpec)

/-- 'rubricatorlaw08.SpaceFull', WHERE WHAT IT READS IS OF BULK AT MOST 1048576: true; the input reads as it did. -/
def spaceFullUptoRow : OpenClaim := { program := "ythijobbhpbklmaa", sum := "c234987a589c49a8ca72afb1574330a06bd4a56be2afa9ead155dac35d454775", func := "rubricator/rubricatorlaw08.SpaceFull", spec := "spaceFull", unfollowed := true, recurses := true, apart := false, narrowed := true }
def SpaceFullUptoSaid : Prop := spaceFullUptoRow.holds Try.pinned (OpenSpec.upto spaceFullSpec)

/-- 'rubricatorlaw08.SpaceBack', WHERE WHAT IT READS IS OF BULK AT MOST 1048576: true; the input reads as it did. -/
def spaceBackUptoRow : OpenClaim := { program := "ythijobbhpbklmaa", sum := "c234987a589c49a8ca72afb1574330a06bd4a56be2afa9ead155dac35d454775", func := "rubricator/rubricatorlaw08.SpaceBack", spec := "spaceBack", unfollowed := true, recurses := true, apart := false, narrowed := true }
def SpaceBackUptoSaid : Prop := spaceBackUptoRow.holds Try.pinned (OpenSpec.upto spaceBackSpec)

/-- 'rubricatorlaw08.SpaceOlder', WHERE WHAT IT READS IS OF BULK AT MOST 1048576: true; the input reads as it did. -/
def spaceOlderUptoRow : OpenClaim := { program := "ythijobbhpbklmaa", sum := "c234987a589c49a8ca72afb1574330a06bd4a56be2afa9ead155dac35d454775", func := "rubricator/rubricatorlaw08.SpaceOlder", spec := "spaceOlder", unfollowed := true, recurses := true, apart := false, narrowed := true }
def SpaceOlderUptoSaid : Prop := spaceOlderUptoRow.holds Try.pinned (OpenSpec.upto spaceOlderSpec)

end Rows
end Go.Proofs.Ythijobbhpbklmaa
