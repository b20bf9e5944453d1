/- PROVED: whatever comes in, the Go function rubricator/rubricatorlaw07.MetaPuts returns true, and each argument reads behind the call as it read before it. Conditions: none but the form's own. -/
import Derived.Test.YtpipgeboddaipaaRows
import Derived.Test.YtpipgeboddaipaaLawMetaPuts
import Derived.WalkKit
import Derived.ProofKit
import Derived.OpenShut
import Derived.ShutString
import Derived.ChangeOld
import Derived.Below
import Derived.Carry
import Derived.Lib.SmallJoins
namespace Go.Proofs.Ytpipgeboddaipaa.metaPuts
open Go.ChangeShapes Go.WideShapes Go.ChangeAt Go.RowKit
set_option linter.unusedVariables false

theorem own : ownKnob Try.prog.godebug = none := by kernel_rfl
theorem laidOut : laidOutB Try.prog = true := by kernel_rfl

/-- What is known of a slice of whole numbers that came in. -/
def IsRow (k : IntKind) (w : World) (a : Option Addr) (len cap : Nat) (zs : List Int) : Prop :=
  (a = none ∧ len = 0 ∧ cap = 0 ∧ zs = []) ∨
  ∃ x, a = some x ∧ len ≤ cap ∧ cap ≤ maxLen ∧ zs.length = cap ∧ (∀ i, i < zs.length → w.cell? (x.add i) = some (.int k (zs.getD i 0))) ∧ ∀ n ∈ zs, (Lit.int k n).wf = true

theorem walk (t0 e0 m0 f0 : Nat) (a1 : Int) (w : World) (bt0 : t0 < 18446744073709551616) (be0 : e0 < 4294967296) (bm0 : m0 < 4294967296) (bf0 : f0 < 4294967296) (w1 : (Lit.int .i64 a1).wf = true) :
    Calls Try.prog 3 #[.agg #[.int .u64 (t0 : Int), .int .u32 (e0 : Int), .int .u32 (m0 : Int), .int .u32 (f0 : Int)], .int .i64 a1] w fun e w' => e = .returned (.bool true) ∧ Below w.heap.size w w' := by
  exact metaPuts_law w t0 e0 m0 f0 bt0 be0 bm0 bf0 a1

set_option maxRecDepth 100000 in
theorem lifted (os : Os) (started : os.Started) (H : Type) (enc : TypeId × Value → H) :
    ReturnsInHanded {} Try.checked os 3 .any (Rows.metaPutsSpec.pre6 enc Try.prog Try.f3 Rows.metaPutsRow.domain false) (Rows.metaPutsSpec.post enc Try.prog Try.f3 false true false false) := by
  refine returnsInHanded_of_change (C := Try.checked) own started (by kernel_rfl) Try.func3
    (ChangeSpec.witness6 (enc := enc) (C := Try.checked) false ⟨#[], #[.agg #[.int .u64 0, .int .u32 0, .int .u32 0, .int .u32 0], .int .i64 0], []⟩ 8 (by kernel_rfl) (by kernel_rfl) (by kernel_rfl) (by kernel_rfl)) ?_
  intro W base args ds gs before hval0 hW hcnd _
  have hval : ∀ (j : Nat) t v, Try.f3.params[j]? = some t → args[j]? = some v → Value.okWide Try.prog W .any base t v := hval0
  have hW' := hW
  obtain ⟨p, q, hA0, hV, rfl, hfz, hnd⟩ := hW
  have hA : DataW.TrodAll enc Try.prog W 0 (fun _ => true) true Try.f3.params.toList args.toList ds p := hA0
  rw [Try.params3] at hA hval
  obtain ⟨v0, vs0, d0, ds0, p0, q0, hargs, rfl, rfl, h0, r0⟩ := trodAll_cons hA
  obtain ⟨v1, vs1, d1, ds1, p1, q1, rfl, rfl, rfl, h1, r1⟩ := trodAll_cons r0
  obtain ⟨rfl, rfl, rfl⟩ := trodAll_nil r1
  obtain rfl : args = #[v0, v1] := by cases args; simp_all
  obtain ⟨rfl, rfl⟩ := trodVars_none hV
  have k0 := h0
  have lt0 : ∀ x ∈ p0, x.block < W.heap.size := by obtain ⟨m, hm⟩ := k0; exact DataW.trod_lt m _ _ _ hm
  obtain ⟨c0, c1, c2, c3, y0, y1, y2, y3, n0, rfl, _, _, g0, g1, g2, g3⟩ := Joins.open_agg4 Try.underlying25 (by kernel_rfl) (by kernel_rfl) (hval 0 25 v0 rfl rfl) h0
  obtain ⟨zz0, ee0, _, ww0⟩ := DataW.trod_int Try.underlying22 g0
  obtain rfl : c0 = .int .u64 zz0 := by simpa using ee0
  have bb0 := bounds_u64 ww0
  obtain ⟨t0, rfl⟩ := Int.eq_ofNat_of_zero_le bb0.1
  have bt0 : t0 < 18446744073709551616 := by omega
  clear bb0 ww0 ee0 g0
  obtain ⟨zz1, ee1, _, ww1⟩ := DataW.trod_int Try.underlying23 g1
  obtain rfl : c1 = .int .u32 zz1 := by simpa using ee1
  have bb1 := bounds_u32 ww1
  obtain ⟨e0, rfl⟩ := Int.eq_ofNat_of_zero_le bb1.1
  have be0 : e0 < 4294967296 := by omega
  clear bb1 ww1 ee1 g1
  obtain ⟨zz2, ee2, _, ww2⟩ := DataW.trod_int Try.underlying23 g2
  obtain rfl : c2 = .int .u32 zz2 := by simpa using ee2
  have bb2 := bounds_u32 ww2
  obtain ⟨m0, rfl⟩ := Int.eq_ofNat_of_zero_le bb2.1
  have bm0 : m0 < 4294967296 := by omega
  clear bb2 ww2 ee2 g2
  obtain ⟨zz3, ee3, _, ww3⟩ := DataW.trod_int Try.underlying23 g3
  obtain rfl : c3 = .int .u32 zz3 := by simpa using ee3
  have bb3 := bounds_u32 ww3
  obtain ⟨f0, rfl⟩ := Int.eq_ofNat_of_zero_le bb3.1
  have bf0 : f0 < 4294967296 := by omega
  clear bb3 ww3 ee3 g3
  obtain ⟨a1, rfl, rfl, rfl, w1⟩ := open_int Try.underlying3 (hval 1 3 v1 rfl rfl) h1
  clear hA0 hval0
  refine (walk t0 e0 m0 f0 a1 W bt0 be0 bm0 bf0 w1).mono fun e W' ⟨he, bel⟩ => ?_
  subst he
  exact ⟨_, rfl, _, _, _, [], _, [], hW', trodAll_mk1 (shut_bool Try.underlying4 _), (trodAll_cons_mk (Below.trod laidOut (by kernel_rfl) (of_decide_eq_true (by kernel_rfl)) k0 bel lt0) (trodAll_cons_mk (shut_int Try.underlying3 w1) trodAll_mk0)), rfl, bel.frame _, fun h => by cases h⟩

theorem over : Rows.metaPutsRow.holds Try.pinned (OpenSpec.ofChange Rows.metaPutsSpec) :=
  OpenClaim.holds_of_wide 3 Try.f3 rfl rfl rfl rfl rfl rfl rfl ⟨rfl, rfl, rfl, rfl, rfl⟩ rfl rfl rfl rfl rfl (by kernel_rfl) Try.func3 (by kernel_rfl)
    (of_decide_eq_true (by kernel_rfl)) (by unfold Func.isWrapper; first | (rw [if_pos (by decide +kernel)]; kernel_rfl) | (rw [if_neg (by decide +kernel)]; exact ⟨rfl, rfl⟩))
    (fun os started H enc _ => lifted os started H enc)

theorem proved : Rows.MetaPutsSaid :=
  over
#print axioms proved
end Go.Proofs.Ytpipgeboddaipaa.metaPuts
