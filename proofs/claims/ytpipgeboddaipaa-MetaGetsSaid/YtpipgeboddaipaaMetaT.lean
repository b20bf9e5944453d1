/- Layer 7's reference: page, Right, Put. -/
import Derived.Test.YtpipgeboddaipaaMetaA
import Derived.Test.YtpipgeboddaipaaRefR
namespace Go.Proofs.Ytpipgeboddaipaa
open Go.RowKit
set_option linter.unusedVariables false
set_option linter.unusedSimpArgs false

theorem refpage_any (w : World) (p e : Nat) : Calls Try.prog 30 #[.int .u32 (p : Int), .int .u32 (e : Int)] w fun r w' => r = .returned (.bool (decide (¬ badPage e p))) ∧ w = w' := by
  by_cases h : badPage e p
  · rw [decide_eq_false (fun hh => hh h)]
    unfold badPage at h
    by_cases h1 : p = 1
    · subst h1
      clear h
      go_enter Try.func30, Try.ntmps30
      go_wp2
      go_ret
      exact ⟨rfl, rfl⟩
    · have d0 : ((p : Int) == 0) = false := by simp; omega
      have d1 : decide ((2 : Int) ≤ (p : Int)) = true := decide_eq_true (by omega)
      have d1n : decide (2 ≤ p) = true := decide_eq_true (by omega)
      have d2 : decide ((p : Int) < (e : Int)) = false := decide_eq_false (by omega)
      have d2n : decide (p < e) = false := decide_eq_false (by omega)
      clear h h1
      go_enter Try.func30, Try.ntmps30
      go_wp2
      go_ret
      exact ⟨rfl, rfl⟩
  · rw [decide_eq_true h]
    unfold badPage at h
    by_cases h1 : p = 0
    · subst h1
      clear h
      go_enter Try.func30, Try.ntmps30
      go_wp2
      go_ret
      exact ⟨rfl, rfl⟩
    · have d0 : ((p : Int) == 0) = false := by simp; omega
      have d1 : decide ((2 : Int) ≤ (p : Int)) = true := decide_eq_true (by omega)
      have d1n : decide (2 ≤ p) = true := decide_eq_true (by omega)
      have d2 : decide ((p : Int) < (e : Int)) = true := decide_eq_true (by omega)
      have d2n : decide (p < e) = true := decide_eq_true (by omega)
      clear h h1
      go_enter Try.func30, Try.ntmps30
      go_wp2
      go_ret
      exact ⟨rfl, rfl⟩
theorem refpage_b (w : World) (p e : Nat) (b : Bool) (h : Hid (decide (¬ badPage e p) = b)) : Calls Try.prog 30 #[.int .u32 (p : Int), .int .u32 (e : Int)] w fun r w' => r = .returned (.bool b) ∧ w = w' := by
  have := refpage_any w p e
  rwa [h.out] at this

set_option maxHeartbeats 1000000 in
theorem refright_any (w : World) (t e m f : Nat) (ht : t < 18446744073709551616) (he : e < 4294967296) (hm : m < 4294967296) (hf : f < 4294967296) :
    Calls Try.prog 15 #[.agg #[.int .u64 (t : Int), .int .u32 (e : Int), .int .u32 (m : Int), .int .u32 (f : Int)]] w fun r w' => r = .returned (.bool (decide (MRight t e m f))) ∧ Below w.heap.size w w' := by
  have hb0 : Below w.heap.size w (w.alloc (.cells #[.int .u64 (t : Int), .int .u32 (e : Int), .int .u32 (m : Int), .int .u32 (f : Int)] 30)) := (Below.refl _ _).alloc (Nat.le_refl _) _
  by_cases c1 : 1 ≤ t
  · have d1 : decide ((0 : Int) < (t : Int)) = true := decide_eq_true (by omega)
    have d1n : decide (0 < t) = true := decide_eq_true (by omega)
    by_cases c2 : 2 ≤ e
    · have d2 : decide ((1 : Int) < (e : Int)) = true := decide_eq_true (by omega)
      have d2n : decide (1 < e) = true := decide_eq_true (by omega)
      by_cases c3 : badPage e m
      · rw [decide_eq_false (fun h => h.1 c3)]
        have hp : Hid (decide (¬ badPage e m) = false) := Lib.hid (decide_eq_false (fun h => h c3))
        clear c3
        go_enter Try.func15, Try.ntmps15
        go_wp2_with (first | (go_at_call 30; refine (refpage_b _ m e false hp).mono ?_; rintro r w1 ⟨rfl, rfl⟩))
        go_ret
        exact ⟨rfl, hb0⟩
      · have hp : Hid (decide (¬ badPage e m) = true) := Lib.hid (decide_eq_true c3)
        by_cases c4 : badPage e f
        · rw [decide_eq_false (fun h => h.2.1 c4)]
          have hq : Hid (decide (¬ badPage e f) = false) := Lib.hid (decide_eq_false (fun h => h c4))
          clear c3 c4
          go_enter Try.func15, Try.ntmps15
          go_wp2_with fail
          refine (refpage_b _ m e true hp).mono ?_
          rintro r w1 ⟨rfl, rfl⟩
          go_wp2_with fail
          refine (refpage_b _ f e false hq).mono ?_
          rintro r w1 ⟨rfl, rfl⟩
          go_wp2_with fail
          go_ret
          exact ⟨rfl, hb0⟩
        · rw [decide_eq_true (show MRight t e m f from ⟨c3, c4, c1, c2⟩)]
          have hq : Hid (decide (¬ badPage e f) = true) := Lib.hid (decide_eq_true c4)
          clear c3 c4
          go_enter Try.func15, Try.ntmps15
          go_wp2_with fail
          refine (refpage_b _ m e true hp).mono ?_
          rintro r w1 ⟨rfl, rfl⟩
          go_wp2_with fail
          refine (refpage_b _ f e true hq).mono ?_
          rintro r w1 ⟨rfl, rfl⟩
          go_wp2_with fail
          go_ret
          exact ⟨rfl, hb0⟩
    · rw [decide_eq_false (fun h => c2 h.2.2.2)]
      have d2 : decide ((1 : Int) < (e : Int)) = false := decide_eq_false (by omega)
      have d2n : decide (1 < e) = false := decide_eq_false (by omega)
      go_enter Try.func15, Try.ntmps15
      go_wp2
      go_ret
      exact ⟨rfl, hb0⟩
  · rw [decide_eq_false (fun h => c1 h.2.2.1)]
    have d1 : decide ((0 : Int) < (t : Int)) = false := decide_eq_false (by omega)
    have d1n : decide (0 < t) = false := decide_eq_false (by omega)
    go_enter Try.func15, Try.ntmps15
    go_wp2
    go_ret
    exact ⟨rfl, hb0⟩

end Go.Proofs.Ytpipgeboddaipaa
