/- Package meta: Right, Slot. -/
import Derived.Test.YtpipgeboddaipaaOctR
namespace Go.Proofs.Ytpipgeboddaipaa
open Go.RowKit
set_option linter.unusedVariables false
set_option linter.unusedSimpArgs false

def badPage (e p : Nat) : Prop := p = 1 ∨ 0 < p ∧ e ≤ p
instance (e p : Nat) : Decidable (badPage e p) := by unfold badPage; exact inferInstance
/-- Whether a meta may be. -/
def MRight (t e m f : Nat) : Prop := ¬ badPage e m ∧ ¬ badPage e f ∧ 1 ≤ t ∧ 2 ≤ e
instance (t e m f : Nat) : Decidable (MRight t e m f) := by unfold MRight; exact inferInstance

theorem slot_any (w : World) (t : Nat) (h : t < 18446744073709551616) : Calls Try.prog 16 #[.int .u64 (t : Int)] w fun e w' => e = .returned (.int .i64 ((t % 2 : Nat) : Int)) ∧ w = w' := by
  go_enter Try.func16, Try.ntmps16
  go_wp2
  go_ret
  exact ⟨ret_int (by omega), rfl⟩

set_option maxRecDepth 20000 in
set_option maxHeartbeats 2000000 in
theorem right_any (w : World) (t e m f : Nat) (ht : t < 18446744073709551616) (he : e < 4294967296) (hm : m < 4294967296) (hf : f < 4294967296) :
    Calls Try.prog 14 #[.agg #[.int .u64 (t : Int), .int .u32 (e : Int), .int .u32 (m : Int), .int .u32 (f : Int)]] w fun r w' => r = .returned (.bool (decide (MRight t e m f))) ∧ Below w.heap.size w w' := by
  have hb0 : Below w.heap.size w (w.alloc (.cells #[.int .u64 (t : Int), .int .u32 (e : Int), .int .u32 (m : Int), .int .u32 (f : Int)] 29)) := (Below.refl _ _).alloc (Nat.le_refl _) _
  obtain ⟨R, hR⟩ : ∃ R, decide (MRight t e m f) = R := ⟨_, rfl⟩
  rw [hR]
  have HR := Lib.hid hR
  clear hR
  have i0 : ∀ w, (Instr.index 68 (.agg #[.int .u32 (m : Int), .int .u32 (f : Int)]) (.int .i64 0)).run Try.prog w = .ok (.int .u32 (m : Int)) w := fun _ => by kernel_rfl
  have i1 : ∀ w, (Instr.index 68 (.agg #[.int .u32 (m : Int), .int .u32 (f : Int)]) (.int .i64 1)).run Try.prog w = .ok (.int .u32 (f : Int)) w := fun _ => by kernel_rfl
  go_enter Try.func14, Try.ntmps14
  go_wp2
  go_loop [10] (fun i => ∃ k : Nat, k ≤ 2 ∧ i = .int .i64 (k : Int) ∧ (1 ≤ k → ¬ badPage e m) ∧ (2 ≤ k → ¬ badPage e f)) (fun i => 2 - (intOf i).toNat)
  case atStart => exact ⟨0, by omega, rfl, fun h => absurd h (by omega), fun h => absurd h (by omega)⟩
  case round =>
    obtain ⟨k, hk, rfl, hA, hB⟩ := hrel
    have hk3 : k = 0 ∨ k = 1 ∨ k = 2 := by omega
    rcases hk3 with rfl | rfl | rfl
    · clear hA hB hk
      by_cases hb : badPage e m
      · have hno : R = false := by rw [← HR.out]; exact decide_eq_false fun h => h.1 hb
        have HNO := Lib.hid hno
        by_cases h1 : m = 1
        · have d1 : ((m : Int) == 1) = true := by subst h1; rfl
          clear hno hb h1
          go_wp2
          go_ret
          exact ⟨by rw [HNO.out]; rfl, hb0⟩
        · have d1 : ((m : Int) == 1) = false := by simp; omega
          have hb2 : 0 < m ∧ e ≤ m := by unfold badPage at hb; omega
          have d2 : decide ((0 : Int) < (m : Int)) = true := decide_eq_true (by omega)
          have d2n : decide (0 < m) = true := decide_eq_true (by omega)
          have d3 : decide ((e : Int) ≤ (m : Int)) = true := decide_eq_true (by omega)
          have d3n : decide (e ≤ m) = true := decide_eq_true (by omega)
          clear hno hb h1 hb2
          go_wp2
          go_ret
          exact ⟨by rw [HNO.out]; rfl, hb0⟩
      · have HB := Lib.hid hb
        have hx : m ≠ 1 ∧ (m = 0 ∨ m < e) := by unfold badPage at hb; omega
        have d1 : ((m : Int) == 1) = false := by simp; omega
        by_cases h0 : m = 0
        · have d2 : decide ((0 : Int) < (m : Int)) = false := decide_eq_false (by omega)
          have d2n : decide (0 < m) = false := decide_eq_false (by omega)
          clear hb hx h0
          go_wp2
          exact ⟨⟨1, by omega, rfl, fun _ => HB.out, fun h => absurd h (by omega)⟩, by simp [intOf]⟩
        · have d2 : decide ((0 : Int) < (m : Int)) = true := decide_eq_true (by omega)
          have d2n : decide (0 < m) = true := decide_eq_true (by omega)
          have d3 : decide ((e : Int) ≤ (m : Int)) = false := decide_eq_false (by omega)
          have d3n : decide (e ≤ m) = false := decide_eq_false (by omega)
          clear hb hx h0
          go_wp2
          exact ⟨⟨1, by omega, rfl, fun _ => HB.out, fun h => absurd h (by omega)⟩, by simp [intOf]⟩
    · have HA := Lib.hid (hA (by omega))
      clear hB hA hk
      by_cases hb : badPage e f
      · have hno : R = false := by rw [← HR.out]; exact decide_eq_false fun h => h.2.1 hb
        have HNO := Lib.hid hno
        by_cases h1 : f = 1
        · have d1 : ((f : Int) == 1) = true := by subst h1; rfl
          clear hno hb h1
          go_wp2
          go_ret
          exact ⟨by rw [HNO.out]; rfl, hb0⟩
        · have d1 : ((f : Int) == 1) = false := by simp; omega
          have hb2 : 0 < f ∧ e ≤ f := by unfold badPage at hb; omega
          have d2 : decide ((0 : Int) < (f : Int)) = true := decide_eq_true (by omega)
          have d2n : decide (0 < f) = true := decide_eq_true (by omega)
          have d3 : decide ((e : Int) ≤ (f : Int)) = true := decide_eq_true (by omega)
          have d3n : decide (e ≤ f) = true := decide_eq_true (by omega)
          clear hno hb h1 hb2
          go_wp2
          go_ret
          exact ⟨by rw [HNO.out]; rfl, hb0⟩
      · have HB := Lib.hid hb
        have hx : f ≠ 1 ∧ (f = 0 ∨ f < e) := by unfold badPage at hb; omega
        have d1 : ((f : Int) == 1) = false := by simp; omega
        by_cases h0 : f = 0
        · have d2 : decide ((0 : Int) < (f : Int)) = false := decide_eq_false (by omega)
          have d2n : decide (0 < f) = false := decide_eq_false (by omega)
          clear hb hx h0
          go_wp2
          exact ⟨⟨2, by omega, rfl, fun _ => HA.out, fun _ => HB.out⟩, by simp [intOf]⟩
        · have d2 : decide ((0 : Int) < (f : Int)) = true := decide_eq_true (by omega)
          have d2n : decide (0 < f) = true := decide_eq_true (by omega)
          have d3 : decide ((e : Int) ≤ (f : Int)) = false := decide_eq_false (by omega)
          have d3n : decide (e ≤ f) = false := decide_eq_false (by omega)
          clear hb hx h0
          go_wp2
          exact ⟨⟨2, by omega, rfl, fun _ => HA.out, fun _ => HB.out⟩, by simp [intOf]⟩
    · have h1 := hA (by omega)
      have h2 := hB (by omega)
      have hiff : MRight t e m f ↔ (1 ≤ t ∧ 2 ≤ e) := ⟨fun h => h.2.2, fun h => ⟨h1, h2, h⟩⟩
      have HIFF := Lib.hid hiff
      clear hA hB h1 h2 hk hiff
      by_cases ht1 : 1 ≤ t
      · by_cases he1 : 2 ≤ e
        · have hyes : R = true := by rw [← HR.out]; exact decide_eq_true (HIFF.out.2 ⟨ht1, he1⟩)
          have HYES := Lib.hid hyes
          have d1 : decide ((1 : Int) ≤ (t : Int)) = true := decide_eq_true (by omega)
          have d2 : decide ((2 : Int) ≤ (e : Int)) = true := decide_eq_true (by omega)
          clear hyes
          go_wp2
          go_ret
          exact ⟨by rw [HYES.out]; rfl, hb0⟩
        · have hno : R = false := by rw [← HR.out]; exact decide_eq_false (fun h => he1 (HIFF.out.1 h).2)
          have HNO := Lib.hid hno
          have d1 : decide ((1 : Int) ≤ (t : Int)) = true := decide_eq_true (by omega)
          have d2 : decide ((2 : Int) ≤ (e : Int)) = false := decide_eq_false (by omega)
          clear hno
          go_wp2
          go_ret
          exact ⟨by rw [HNO.out]; rfl, hb0⟩
      · have hno : R = false := by rw [← HR.out]; exact decide_eq_false (fun h => ht1 (HIFF.out.1 h).1)
        have HNO := Lib.hid hno
        clear hno
        go_wp2
        go_ret
        exact ⟨by rw [HNO.out]; rfl, hb0⟩
end Go.Proofs.Ytpipgeboddaipaa
