/- PROVED: whatever comes in, the Go function rubricator/rubricatorlaw08.SpaceApart returns true, and each argument reads behind the call as it read before it. Conditions: none but the form's own. -/
import Derived.Test.YthijobbhpbklmaaRows
import Derived.Test.YthijobbhpbklmaaLawSAp
import Derived.WalkKit
import Derived.ProofKit
import Derived.OpenShut
import Derived.ShutString
import Derived.ChangeOld
import Derived.Below
import Derived.Carry
import Derived.Lib.SmallJoins
import Derived.SizedLaws
namespace Go.Proofs.Ythijobbhpbklmaa.spaceApart
open Go.ChangeShapes Go.WideShapes Go.ChangeAt Go.RowKit
set_option linter.unusedVariables false

theorem own : ownKnob Try.prog.godebug = none := by kernel_rfl
theorem laidOut : laidOutB Try.prog = true := by kernel_rfl

/-- What is known of a slice of whole numbers that came in. -/
def IsRow (k : IntKind) (w : World) (a : Option Addr) (len cap : Nat) (zs : List Int) : Prop :=
  (a = none ∧ len = 0 ∧ cap = 0 ∧ zs = []) ∨
  ∃ x, a = some x ∧ len ≤ cap ∧ cap ≤ maxLen ∧ zs.length = cap ∧ (∀ i, i < zs.length → w.cell? (x.add i) = some (.int k (zs.getD i 0))) ∧ ∀ n ∈ zs, (Lit.int k n).wf = true

theorem walk (a0 : Option Addr) (len0 cap0 : Nat) (a1 : Int) (a2 : Option Addr) (len2 cap2 : Nat) (w : World) (w0 : len0 ≤ cap0 ∧ cap0 ≤ maxLen ∧ ∃ rs, Recs w w.heap.size a0 len0 rs ∧ Caps w a0 len0 cap0 rs ∧ FROk rs ∧ len0 ≤ 4398046511103 ∧ ∀ r ∈ rs, r.2.length ≤ 35184372088831) (w1 : (Lit.int .u64 a1).wf = true) (w2 : len2 ≤ cap2 ∧ cap2 ≤ maxLen ∧ SActs w w.heap.size a2 len2) :
    Calls Try.prog 10 #[.slice a0 len0 cap0, .int .u64 a1, .slice a2 len2 cap2] w fun e w' => e = .returned (.bool true) ∧ Below w.heap.size w w' := by
  obtain ⟨hnc0, hm0, rs, hr, hcp, hrok, hn0, hpl⟩ := w0
  have b1 := bounds_u64 w1
  obtain ⟨x, rfl⟩ := Int.eq_ofNat_of_zero_le b1.1
  exact spaceApart_law w a0 len0 cap0 rs hr hcp hrok hn0 hpl x (by omega) a2 len2 cap2 w2.2.2

set_option maxRecDepth 100000 in
theorem lifted (os : Os) (started : os.Started) (H : Type) (enc : TypeId × Value → H) :
    ReturnsInHanded {} Try.checked os 10 .any (Rows.spaceApartSpec.pre6 enc Try.prog Try.f10 Rows.spaceApartRow.domain false) (Rows.spaceApartSpec.post enc Try.prog Try.f10 false true false false) := by
  refine returnsInHanded_of_change_sized (C := Try.checked) own started (by kernel_rfl) Try.func10
    (ChangeSpec.witness6 (enc := enc) (C := Try.checked) false ⟨#[], #[.slice none 0 0, .int .u64 0, .slice none 0 0], []⟩ 8 (by kernel_rfl) (by kernel_rfl) (by kernel_rfl) (by kernel_rfl)) ?_
  intro W base args ds gs before hval0 hW hcnd hsz0 _
  have hval : ∀ (j : Nat) t v, Try.f10.params[j]? = some t → args[j]? = some v → Value.okWide Try.prog W .any base t v := hval0
  have hW' := hW
  obtain ⟨p, q, hA0, hV, rfl, hfz, hnd⟩ := hW
  have hA : DataW.TrodAll enc Try.prog W 0 (fun _ => true) true Try.f10.params.toList args.toList ds p := hA0
  have hsz : (DataW.weightsEach Try.prog (Try.f10.params.toList ++ Rows.spaceApartSpec.plain.varTypes Try.prog) (ds ++ gs)).all (· ≤ reachBytes) = true := hsz0
  rw [Try.params10] at hA hval hsz
  obtain ⟨v0, vs0, d0, ds0, p0, q0, hargs, rfl, rfl, h0, r0⟩ := trodAll_cons hA
  obtain ⟨v1, vs1, d1, ds1, p1, q1, rfl, rfl, rfl, h1, r1⟩ := trodAll_cons r0
  obtain ⟨v2, vs2, d2, ds2, p2, q2, rfl, rfl, rfl, h2, r2⟩ := trodAll_cons r1
  obtain ⟨rfl, rfl, rfl⟩ := trodAll_nil r2
  obtain rfl : args = #[v0, v1, v2] := by cases args; simp_all
  obtain ⟨rfl, rfl⟩ := trodVars_none hV
  obtain ⟨a0, len0, cap0, rfl⟩ := okWide_slice Try.underlying62 (hval 0 62 v0 rfl rfl)
  have k0 := h0
  have lt0 : ∀ x ∈ p0, x.block < W.heap.size := by obtain ⟨m, hm⟩ := k0; exact DataW.trod_lt m _ _ _ hm
  have y0 : ∀ m ∈ d0.weights Try.prog 62, m ≤ reachBytes := fun m hm => by
    have := List.all_eq_true.1 hsz _ (DataW.weights_mem_each (j := 0) (t := 62) (d := d0) rfl rfl m hm)
    simpa using this
  have w0 : len0 ≤ cap0 ∧ cap0 ≤ maxLen ∧ ∃ rs, Recs W W.heap.size a0 len0 rs ∧ Caps W a0 len0 cap0 rs ∧ FROk rs ∧ len0 ≤ 4398046511103 ∧ ∀ r ∈ rs, r.2.length ≤ 35184372088831 := by
    obtain ⟨fuel, hf⟩ := h0
    obtain ⟨A, n, c, hcs, h1, h2, rs, g1, g2, g3, g4⟩ := fraws_of_trod hf
    simp [Value.cells] at hcs
    obtain ⟨rfl, rfl, rfl⟩ := hcs
    obtain ⟨g5, g6⟩ := g4 y0
    exact ⟨h1, h2, rs, g1, g2, g3, g5, g6⟩
  obtain ⟨a1, rfl, rfl, rfl, w1⟩ := open_int Try.underlying63 (hval 1 63 v1 rfl rfl) h1
  obtain ⟨a2, len2, cap2, rfl⟩ := okWide_slice Try.underlying64 (hval 2 64 v2 rfl rfl)
  have k2 := h2
  have lt2 : ∀ x ∈ p2, x.block < W.heap.size := by obtain ⟨m, hm⟩ := k2; exact DataW.trod_lt m _ _ _ hm
  have w2 : len2 ≤ cap2 ∧ cap2 ≤ maxLen ∧ SActs W W.heap.size a2 len2 := by
    obtain ⟨fuel, hf⟩ := h2
    obtain ⟨A, n, c, hcs, h1, h2, h3⟩ := sacts_of_trod hf
    simp [Value.cells] at hcs
    obtain ⟨rfl, rfl, rfl⟩ := hcs
    exact ⟨h1, h2, h3⟩
  clear hA0 hval0 hsz0 hsz
  refine (walk a0 len0 cap0 a1 a2 len2 cap2 W w0 w1 w2).mono fun e W' ⟨he, bel⟩ => ?_
  subst he
  exact ⟨_, rfl, _, _, _, [], _, [], hW', trodAll_mk1 (shut_bool Try.underlying4 _), (trodAll_cons_mk (Below.trod laidOut (by kernel_rfl) (of_decide_eq_true (by kernel_rfl)) k0 bel lt0) (trodAll_cons_mk (shut_int Try.underlying63 w1) (trodAll_cons_mk (Below.trod laidOut (by kernel_rfl) (of_decide_eq_true (by kernel_rfl)) k2 bel lt2) trodAll_mk0))), rfl, bel.frame _, fun h => by cases h⟩

theorem over : Rows.spaceApartRow.holds Try.pinned (OpenSpec.ofChange Rows.spaceApartSpec) :=
  OpenClaim.holds_of_wide 10 Try.f10 rfl rfl rfl rfl rfl rfl rfl ⟨rfl, rfl, rfl, rfl, rfl⟩ rfl rfl rfl rfl rfl (by kernel_rfl) Try.func10 (by kernel_rfl)
    (of_decide_eq_true (by kernel_rfl)) (by unfold Func.isWrapper; first | (rw [if_pos (by decide +kernel)]; kernel_rfl) | (rw [if_neg (by decide +kernel)]; exact ⟨rfl, rfl⟩))
    (fun os started H enc _ => lifted os started H enc)

theorem proved : Rows.SpaceApartSaid :=
  over
#print axioms proved
end Go.Proofs.Ythijobbhpbklmaa.spaceApart
