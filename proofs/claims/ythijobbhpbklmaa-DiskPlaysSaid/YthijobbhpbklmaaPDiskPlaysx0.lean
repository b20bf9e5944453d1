-- PRINTED BY print.sh 35421559b90ae4d0a3588c463048766b98c2df88dd9212a6774a882060cdf62d: not written by this session
import Derived.Test.YthijobbhpbklmaaProg
import Derived.Below
import Derived.Deep.Draws
import Derived.Deep.AppendLies
import Derived.Maps.AppendAt
import Derived.OwnWalk
import Derived.Laws.BytesArg
import Derived.Laws.MakeOwn
import Derived.Laws.OwnMore
import Derived.Deep.OwnRows
import Derived.Tactics
import Derived.Lib.ConvBytes
import Derived.Laws.Slices
import Derived.WalkKit
import Derived.KernelRfl
import Derived.RowKit3
import Derived.Deep.LoopGhost
import Derived.Deep.QuietTactic
import Derived.BigQuiet
import Derived.WideLaws
import Derived.Deep.DeepCutAuto
import Derived.Deep.CutBlock
import Derived.Deep.RegionHeld3
import Derived.Laws.Rows
import Derived.Lib.AppendStr
import Derived.ArgAppend
import Derived.Laws.IdiomCopy
import Derived.OrdersHeld
import Derived.Laws.BitsLemmas
import Derived.RowKit
import Derived.Test.YthijobbhpbklmaaWWords
import Derived.Test.YthijobbhpbklmaaWLast
import Derived.Test.YthijobbhpbklmaaWTab
import Derived.Test.YthijobbhpbklmaaWFour
import Derived.Test.YthijobbhpbklmaaWQPut
import Derived.Test.YthijobbhpbklmaaWApart
import Derived.Test.YthijobbhpbklmaaWArr
import Derived.Test.YthijobbhpbklmaaWZeros
import Derived.Test.YthijobbhpbklmaaWFoot
import Derived.Test.YthijobbhpbklmaaWKept
import Derived.Test.YthijobbhpbklmaaWShare
import Derived.Test.YthijobbhpbklmaaWN
import Derived.Test.YthijobbhpbklmaaWFootNe
import Derived.Test.YthijobbhpbklmaaWAt
import Derived.Test.YthijobbhpbklmaaWEqStruct
import Derived.Test.YthijobbhpbklmaaWRepsOne
import Derived.Test.YthijobbhpbklmaaWInv
import Derived.Test.YthijobbhpbklmaaWInvWords
import Derived.Test.YthijobbhpbklmaaWGuard
import Derived.Test.YthijobbhpbklmaaWNEv
import Derived.Test.YthijobbhpbklmaaWMore
namespace Go.Proofs.Ythijobbhpbklmaa.PDiskPlays
open Go.RowKit Go.Proofs.YthijobbhpbklmaaW.PrintWords Go.Proofs.YthijobbhpbklmaaW.PrintLast Go.Proofs.YthijobbhpbklmaaW.PrintMore
attribute [local go_sem] max2_int min2_int max_two min_two max_three min_three max_four min_four   -- for this text's walks alone
set_option linter.unusedVariables false
set_option linter.unusedSimpArgs false



def errW : Option Int → Value
  | none => .nilIface
  | some c => .iface 0 (.int .i64 c)
theorem errW_none : errW none = .nilIface := rfl
theorem errW_some (c : Int) : errW (some c) = .iface 0 (.int .i64 c) := rfl

theorem info5 : (Try.prog.info? 5).map (fun i => (i.zero, i.size, i.bytes)) = some (some (.int .u8 0), 1, 1) := by kernel_rfl
theorem info9 : (Try.prog.info? 9).map (fun i => (i.zero, i.size, i.bytes)) = some (some (.string ⟨#[]⟩), 1, 16) := by kernel_rfl
theorem info135 : (Try.prog.info? 135).map (fun i => (i.zero, i.size, i.bytes)) = some (some (.agg #[(.int .i64 0), (.string ⟨#[]⟩)]), 2, 24) := by kernel_rfl
-- the values' own types
/-! #### struct type 135 -/
structure S135 where
  f0 : Int
  f1 : ByteArray
def z135 : S135 := ⟨(0 : Int), (⟨#[]⟩ : ByteArray)⟩
def k135 : Kd S135 := Kd.iso (Kd.pair (Kd.int .i64) Kd.string) (fun x : S135 => (x.f0, x.f1))
theorem k135_open {w : World} {x : S135} {cs : List Value} (h : k135.K w x cs) : cs = [.int .i64 x.f0, .string x.f1] := by
  obtain ⟨_, _, rfl, rfl, rfl⟩ := h
  exact rfl
theorem k135_openM {w : World} {base : Nat} {ok : Nat → Prop} {x : S135} {cs : List Value} (h : k135.M w base ok x cs) : cs = [.int .i64 x.f0, .string x.f1] := by
  obtain ⟨_, _, rfl, rfl, rfl⟩ := h
  exact rfl
theorem k135_mk (w : World) (x : S135)  : k135.K w x [.int .i64 x.f0, .string x.f1] := ⟨[.int .i64 x.f0], [.string x.f1], rfl, rfl, rfl⟩
theorem k135_mkM (w : World) (base : Nat) (ok : Nat → Prop) (x : S135)  : k135.M w base ok x [.int .i64 x.f0, .string x.f1] := ⟨[.int .i64 x.f0], [.string x.f1], rfl, rfl, rfl⟩
theorem k135_mkF (W : World) (ok : Nat → Prop) (x : S135) : Kd.FK k135 W ok x [.int .i64 x.f0, .string x.f1] := fun W2 _ => k135_mk W2 x
def rd_T135 (xs : List S135) (i : Int) : S135 := xs.getD i.toNat z135
theorem at_T135 {w : World} {A : Option Addr} {n : Nat} {xs : List S135} (h : Kd.C k135 w A n xs) (i : Int) (h0 : 0 ≤ i) (h1 : i < n) : ∃ ad , A = some ad ∧ w.cell? (ad.add (i.toNat * 2)) = some (.int .i64 (rd_T135 xs i).f0) ∧ w.cell? ⟨(ad.add (i.toNat * 2)).block, (ad.add (i.toNat * 2)).off + 1, none⟩ = some (.string (rd_T135 xs i).f1) := by
  obtain ⟨ad, c, e, _, hK, hc0⟩ := Kd.C_get h z135 i h0 h1
  have hc : ∀ j u, c[j]? = some u → w.cell? (ad.add (i.toNat * 2 + j)) = some u := hc0
  obtain rfl := k135_open hK
  exact ⟨ad, e, hc 0 _ rfl, by rw [← add_field _ _ 1 (by omega)]; exact hc 1 _ rfl⟩

end Go.Proofs.Ythijobbhpbklmaa.PDiskPlays
