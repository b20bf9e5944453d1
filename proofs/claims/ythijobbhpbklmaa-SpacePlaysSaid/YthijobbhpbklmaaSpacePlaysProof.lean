/- PROVED: whatever comes in, the Go function rubricator/rubricatorlaw08.SpacePlays returns true, and each argument reads behind the call as it read before it. Conditions: none but the form's own. -/
import Derived.Test.YthijobbhpbklmaaRows
import Derived.Test.YthijobbhpbklmaaSpPl26
import Derived.WalkKit
import Derived.ProofKit
import Derived.OpenShut
import Derived.ShutString
import Derived.ChangeOld
import Derived.Below
import Derived.Carry
import Derived.Lib.SmallJoins
import Derived.SizedLaws
namespace Go.Proofs.Ythijobbhpbklmaa.spacePlays
open Go.ChangeShapes Go.WideShapes Go.ChangeAt Go.RowKit
set_option linter.unusedVariables false

theorem own : ownKnob Try.prog.godebug = none := by kernel_rfl
theorem laidOut : laidOutB Try.prog = true := by kernel_rfl

/-- What is known of a slice of whole numbers that came in. -/
def IsRow (k : IntKind) (w : World) (a : Option Addr) (len cap : Nat) (zs : List Int) : Prop :=
  (a = none ∧ len = 0 ∧ cap = 0 ∧ zs = []) ∨
  ∃ x, a = some x ∧ len ≤ cap ∧ cap ≤ maxLen ∧ zs.length = cap ∧ (∀ i, i < zs.length → w.cell? (x.add i) = some (.int k (zs.getD i 0))) ∧ ∀ n ∈ zs, (Lit.int k n).wf = true

theorem walk (a0 : Int) (a1 : Int) (a2 : Option Addr) (len2 cap2 : Nat) (a3 : Int) (a4 : Option Addr) (len4 cap4 : Nat) (a5 : Int) (w : World) (w0 : (Lit.int .u32 a0).wf = true) (w1 : (Lit.int .u32 a1).wf = true) (w2 : len2 ≤ cap2 ∧ cap2 ≤ maxLen ∧ ∃ rs, Recs w w.heap.size a2 len2 rs ∧ Caps w a2 len2 cap2 rs ∧ FROk rs ∧ len2 ≤ 4398046511103 ∧ ∀ r ∈ rs, r.2.length ≤ 35184372088831) (w3 : (Lit.int .u64 a3).wf = true) (w4 : len4 ≤ cap4 ∧ cap4 ≤ maxLen ∧ SActs w w.heap.size a4 len4) (w5 : (Lit.int .u64 a5).wf = true) :
    Calls Try.prog 9 #[.int .u32 a0, .int .u32 a1, .slice a2 len2 cap2, .int .u64 a3, .slice a4 len4 cap4, .int .u64 a5] w fun e w' => e = .returned (.bool true) ∧ Below w.heap.size w w' := by
  have b0 := bounds_u32 w0
  have b1 := bounds_u32 w1
  have b3 := bounds_u64 w3
  have b5 := bounds_u64 w5
  obtain ⟨e, rfl⟩ := Int.eq_ofNat_of_zero_le b0.1
  obtain ⟨l, rfl⟩ := Int.eq_ofNat_of_zero_le b1.1
  obtain ⟨o, rfl⟩ := Int.eq_ofNat_of_zero_le b3.1
  obtain ⟨t, rfl⟩ := Int.eq_ofNat_of_zero_le b5.1
  obtain ⟨_, _, rs, hR, hC, hO, hl, hr⟩ := w2
  exact spacePlays_law w e l (by omega) (by omega) a2 len2 cap2 rs hR hC hO hl hr o (by omega) a4 len4 cap4 w4.2.2 t (by omega)

set_option maxRecDepth 100000 in
theorem lifted (os : Os) (started : os.Started) (H : Type) (enc : TypeId × Value → H) :
    ReturnsInHanded {} Try.checked os 9 .any (Rows.spacePlaysSpec.pre6 enc Try.prog Try.f9 Rows.spacePlaysRow.domain false) (Rows.spacePlaysSpec.post enc Try.prog Try.f9 false true false false) := by
  refine returnsInHanded_of_change_sized (C := Try.checked) own started (by kernel_rfl) Try.func9
    (ChangeSpec.witness6 (enc := enc) (C := Try.checked) false ⟨#[], #[.int .u32 0, .int .u32 0, .slice none 0 0, .int .u64 0, .slice none 0 0, .int .u64 0], []⟩ 8 (by kernel_rfl) (by kernel_rfl) (by kernel_rfl) (by kernel_rfl)) ?_
  intro W base args ds gs before hval0 hW hcnd hsz0 _
  have hval : ∀ (j : Nat) t v, Try.f9.params[j]? = some t → args[j]? = some v → Value.okWide Try.prog W .any base t v := hval0
  have hW' := hW
  obtain ⟨p, q, hA0, hV, rfl, hfz, hnd⟩ := hW
  have hA : DataW.TrodAll enc Try.prog W 0 (fun _ => true) true Try.f9.params.toList args.toList ds p := hA0
  have hsz : (DataW.weightsEach Try.prog (Try.f9.params.toList ++ Rows.spacePlaysSpec.plain.varTypes Try.prog) (ds ++ gs)).all (· ≤ reachBytes) = true := hsz0
  rw [Try.params9] at hA hval hsz
  obtain ⟨v0, vs0, d0, ds0, p0, q0, hargs, rfl, rfl, h0, r0⟩ := trodAll_cons hA
  obtain ⟨v1, vs1, d1, ds1, p1, q1, rfl, rfl, rfl, h1, r1⟩ := trodAll_cons r0
  obtain ⟨v2, vs2, d2, ds2, p2, q2, rfl, rfl, rfl, h2, r2⟩ := trodAll_cons r1
  obtain ⟨v3, vs3, d3, ds3, p3, q3, rfl, rfl, rfl, h3, r3⟩ := trodAll_cons r2
  obtain ⟨v4, vs4, d4, ds4, p4, q4, rfl, rfl, rfl, h4, r4⟩ := trodAll_cons r3
  obtain ⟨v5, vs5, d5, ds5, p5, q5, rfl, rfl, rfl, h5, r5⟩ := trodAll_cons r4
  obtain ⟨rfl, rfl, rfl⟩ := trodAll_nil r5
  obtain rfl : args = #[v0, v1, v2, v3, v4, v5] := by cases args; simp_all
  obtain ⟨rfl, rfl⟩ := trodVars_none hV
  obtain ⟨a0, rfl, rfl, rfl, w0⟩ := open_int Try.underlying61 (hval 0 61 v0 rfl rfl) h0
  obtain ⟨a1, rfl, rfl, rfl, w1⟩ := open_int Try.underlying61 (hval 1 61 v1 rfl rfl) h1
  obtain ⟨a2, len2, cap2, rfl⟩ := okWide_slice Try.underlying62 (hval 2 62 v2 rfl rfl)
  have k2 := h2
  have lt2 : ∀ x ∈ p2, x.block < W.heap.size := by obtain ⟨m, hm⟩ := k2; exact DataW.trod_lt m _ _ _ hm
  have y2 : ∀ m ∈ d2.weights Try.prog 62, m ≤ reachBytes := fun m hm => by
    have := List.all_eq_true.1 hsz _ (DataW.weights_mem_each (j := 2) (t := 62) (d := d2) rfl rfl m hm)
    simpa using this
  have w2 : len2 ≤ cap2 ∧ cap2 ≤ maxLen ∧ ∃ rs, Recs W W.heap.size a2 len2 rs ∧ Caps W a2 len2 cap2 rs ∧ FROk rs ∧ len2 ≤ 4398046511103 ∧ ∀ r ∈ rs, r.2.length ≤ 35184372088831 := by
    obtain ⟨fuel, hf⟩ := h2
    obtain ⟨A, n, c, hcs, h1, h2, rs, g1, g2, g3, g4⟩ := fraws_of_trod hf
    simp [Value.cells] at hcs
    obtain ⟨rfl, rfl, rfl⟩ := hcs
    obtain ⟨g5, g6⟩ := g4 y2
    exact ⟨h1, h2, rs, g1, g2, g3, g5, g6⟩
  obtain ⟨a3, rfl, rfl, rfl, w3⟩ := open_int Try.underlying63 (hval 3 63 v3 rfl rfl) h3
  obtain ⟨a4, len4, cap4, rfl⟩ := okWide_slice Try.underlying64 (hval 4 64 v4 rfl rfl)
  have k4 := h4
  have lt4 : ∀ x ∈ p4, x.block < W.heap.size := by obtain ⟨m, hm⟩ := k4; exact DataW.trod_lt m _ _ _ hm
  have w4 : len4 ≤ cap4 ∧ cap4 ≤ maxLen ∧ SActs W W.heap.size a4 len4 := by
    obtain ⟨fuel, hf⟩ := h4
    obtain ⟨A, n, c, hcs, h1, h2, h3⟩ := sacts_of_trod hf
    simp [Value.cells] at hcs
    obtain ⟨rfl, rfl, rfl⟩ := hcs
    exact ⟨h1, h2, h3⟩
  obtain ⟨a5, rfl, rfl, rfl, w5⟩ := open_int Try.underlying63 (hval 5 63 v5 rfl rfl) h5
  clear hA0 hval0 hsz0 hsz
  refine (walk a0 a1 a2 len2 cap2 a3 a4 len4 cap4 a5 W w0 w1 w2 w3 w4 w5).mono fun e W' ⟨he, bel⟩ => ?_
  subst he
  exact ⟨_, rfl, _, _, _, [], _, [], hW', trodAll_mk1 (shut_bool Try.underlying4 _), (trodAll_cons_mk (shut_int Try.underlying61 w0) (trodAll_cons_mk (shut_int Try.underlying61 w1) (trodAll_cons_mk (Below.trod laidOut (by kernel_rfl) (of_decide_eq_true (by kernel_rfl)) k2 bel lt2) (trodAll_cons_mk (shut_int Try.underlying63 w3) (trodAll_cons_mk (Below.trod laidOut (by kernel_rfl) (of_decide_eq_true (by kernel_rfl)) k4 bel lt4) (trodAll_cons_mk (shut_int Try.underlying63 w5) trodAll_mk0)))))), rfl, bel.frame _, fun h => by cases h⟩

theorem over : Rows.spacePlaysRow.holds Try.pinned (OpenSpec.ofChange Rows.spacePlaysSpec) :=
  OpenClaim.holds_of_wide 9 Try.f9 rfl rfl rfl rfl rfl rfl rfl ⟨rfl, rfl, rfl, rfl, rfl⟩ rfl rfl rfl rfl rfl (by kernel_rfl) Try.func9 (by kernel_rfl)
    (of_decide_eq_true (by kernel_rfl)) (by unfold Func.isWrapper; first | (rw [if_pos (by decide +kernel)]; kernel_rfl) | (rw [if_neg (by decide +kernel)]; exact ⟨rfl, rfl⟩))
    (fun os started H enc _ => lifted os started H enc)

theorem proved : Rows.SpacePlaysSaid :=
  over
#print axioms proved
end Go.Proofs.Ythijobbhpbklmaa.spacePlays
