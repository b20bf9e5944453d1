/- DiskMakes. -/
import Derived.Test.YthijobbhpbklmaaDAwake
namespace Go.Proofs.Ythijobbhpbklmaa
open Go.RowKit
set_option linter.unusedVariables false
set_option linter.unusedSimpArgs false

theorem and31 (N : Int) : ∃ M : Nat, M < 32 ∧ bits BinOp.and IntKind.i64 N 31 = (M : Int) := by
  have hlt : (BitVec.ofInt 64 N &&& BitVec.ofInt 64 31).toNat < 32 := by
    rw [BitVec.toNat_and]
    exact Nat.and_lt_two_pow _ (n := 5) (by decide)
  refine ⟨(BitVec.ofInt 64 N &&& BitVec.ofInt 64 31).toNat, hlt, ?_⟩
  show IntKind.i64.wrap (((BitVec.ofInt 64 N &&& BitVec.ofInt 64 31).toNat : Nat) : Int) = _
  exact IntWalk.i64_in _ (by omega)
set_option maxRecDepth 100000 in
set_option maxHeartbeats 1000000 in
theorem diskMakes_no (w : World) (S L N : Int) (hno : ¬ NewOk S L) :
    Calls Try.prog 3 #[.int .i64 S, .int .i64 L, .int .i64 N] w fun e w' => e = .returned (.bool true) ∧ Below w.heap.size w w' := by
  have haw := awake03 w
  have hne := fun w1 => dnew_no w1 S L hno
  by_cases h1 : 512 ≤ S
  case neg =>
    have d1 : decide (512 ≤ S) = false := decide_eq_false h1
    clear hno
    go_enter Try.func3, Try.ntmps3
    go_wp2_with (first | (go_at_call 14; refine haw.mono ?_; rintro e w1 ⟨rfl, hb1⟩) | (go_at_call 15; refine (hne _).mono ?_; rintro e w2 ⟨rfl, rfl⟩))
    go_ret
    exact ⟨rfl, hb1⟩
  have d1 : decide (512 ≤ S) = true := decide_eq_true h1
  by_cases h2 : S ≤ 4096
  case neg =>
    have d2 : decide (S ≤ 4096) = false := decide_eq_false h2
    clear hno
    go_enter Try.func3, Try.ntmps3
    go_wp2_with (first | (go_at_call 14; refine haw.mono ?_; rintro e w1 ⟨rfl, hb1⟩) | (go_at_call 15; refine (hne _).mono ?_; rintro e w2 ⟨rfl, rfl⟩))
    go_ret
    exact ⟨rfl, hb1⟩
  have d2 : decide (S ≤ 4096) = true := decide_eq_true h2
  have m1 : S.tmod 128 = S % 128 := Int.tmod_eq_emod_of_nonneg (by omega)
  by_cases h3 : S % 128 = 0
  case neg =>
    have d3 : (S % 128 == 0) = false := by simp [h3]
    clear hno
    go_enter Try.func3, Try.ntmps3
    go_wp2_with (first | (go_at_call 14; refine haw.mono ?_; rintro e w1 ⟨rfl, hb1⟩) | (go_at_call 15; refine (hne _).mono ?_; rintro e w2 ⟨rfl, rfl⟩))
    go_ret
    exact ⟨rfl, hb1⟩
  by_cases h4 : 1 ≤ L
  case neg =>
    have d4 : decide (1 ≤ L) = false := decide_eq_false h4
    clear hno
    go_enter Try.func3, Try.ntmps3
    go_wp2_with (first | (go_at_call 14; refine haw.mono ?_; rintro e w1 ⟨rfl, hb1⟩) | (go_at_call 15; refine (hne _).mono ?_; rintro e w2 ⟨rfl, rfl⟩))
    go_ret
    exact ⟨rfl, hb1⟩
  have d4 : decide (1 ≤ L) = true := decide_eq_true h4
  have h5 : ¬ L ≤ 65536 := fun h5 => hno ⟨h1, h2, h3, h4, h5⟩
  have d5 : decide (L ≤ 65536) = false := decide_eq_false h5
  clear hno
  go_enter Try.func3, Try.ntmps3
  go_wp2_with (first | (go_at_call 14; refine haw.mono ?_; rintro e w1 ⟨rfl, hb1⟩) | (go_at_call 15; refine (hne _).mono ?_; rintro e w2 ⟨rfl, rfl⟩))
  go_ret
  exact ⟨rfl, hb1⟩
set_option maxRecDepth 100000 in
set_option maxHeartbeats 1000000 in
theorem diskMakes_is (w : World) (size limit : Nat) (N : Int) (hok : NewOk (size : Int) (limit : Int)) (M : Nat) (hM : M < 32) (hMe : bits BinOp.and IntKind.i64 N 31 = (M : Int)) :
    Calls Try.prog 3 #[.int .i64 (size : Int), .int .i64 (limit : Int), .int .i64 N] w fun e w' => e = .returned (.bool true) ∧ Below w.heap.size w w' := by
  have haw := awake03 w
  have HOK := Lib.hid hok
  obtain ⟨h1, h2, h3, h4, h5⟩ := hok
  have m1 : (size : Int).tmod 128 = 0 := by rw [Int.tmod_eq_emod_of_nonneg (by omega)]; exact h3
  have d1 : decide (512 ≤ (size : Int)) = true := decide_eq_true h1
  have d2 : decide ((size : Int) ≤ 4096) = true := decide_eq_true h2
  have d4 : decide (1 ≤ (limit : Int)) = true := decide_eq_true h4
  have d5 : decide ((limit : Int) ≤ 65536) = true := decide_eq_true h5
  obtain ⟨b, hb⟩ : ∃ b, w.heap.size = b := ⟨_, rfl⟩
  rw [hb] at haw ⊢
  go_enter Try.func3, Try.ntmps3
  go_wp2_with fail
  refine haw.mono ?_
  rintro e w1 ⟨rfl, hb1⟩
  have hz1 := hb1.size
  rw [hb] at hz1
  go_wp2_with fail
  refine (dnew_is w1 size limit HOK.out b (fun k => b ≤ k) hz1 hz1).mono ?_
  rintro e w2 ⟨rfl, hD2, hb2⟩
  have hz2 := hb2.size
  have hbb2 := hb1.trans (hb2.mono hz1)
  clear hb2 hb1
  generalize w1.heap.size = p at hD2 hz1 hz2 ⊢
  go_wp2_with fail
  have hg := dgrow_any hD2 (fun k hk => by show b ≤ k; omega) (by omega) (by show 0 < 1000000000; omega) (M : Int) (by omega)
  by_cases hml : M ≤ limit
  · refine hg.mono ?_
    rintro e w3 hG
    obtain ⟨rfl, hD3, hF3⟩ : e = .returned (.int .i64 0) ∧ DiskAt w3 b (fun k => b ≤ k) p ((dNew size limit).count.grown M) ∧ Fr (fun k => b ≤ k) w2 w3 := by
      rcases hG with ⟨h, _⟩ | ⟨_, h, _⟩ | ⟨_, _, h, _⟩ | ⟨_, _, _, h1, h2, h3⟩
      · exact absurd h (by show ¬ (M : Int) < 0; omega)
      · exact absurd h (by show ¬ (limit : Int) < (M : Int); omega)
      · exact absurd h (by show ¬ (-1 : Int) = 0; omega)
      · exact ⟨h1, h2, h3⟩
    have hbb3 := hbb2.trans (hF3.below (by omega) (fun k hk => by show ¬ b ≤ k; omega))
    have hsz : Calls Try.prog 17 #[.pointer (some ⟨p, 0, none⟩)] w3 fun e w' => e = .returned (.int .i64 (size : Int)) ∧ w3 = w' := dsize_any hD3
    have hlm : Calls Try.prog 18 #[.pointer (some ⟨p, 0, none⟩)] w3 fun e w' => e = .returned (.int .i64 (limit : Int)) ∧ w3 = w' := dlimit_any hD3
    have hca : Calls Try.prog 20 #[.pointer (some ⟨p, 0, none⟩)] w3 fun e w' => e = .returned (.int .i64 1) ∧ w3 = w' := dcalls_any hD3
    have hln := dlen_any hD3
    rw [show ((dNew size limit).count.grown M).good.length = M from by simp [Dk.grown, Dk.count, dNew]] at hln
    have e1 : decide ((M : Int) ≤ (limit : Int)) = true := decide_eq_true (by omega)
    have e1' : decide (M ≤ limit) = true := decide_eq_true hml
    have e2 : decide ((limit : Int) < (M : Int)) = false := decide_eq_false (by omega)
    have e2' : decide (limit < M) = false := decide_eq_false (by omega)
    clear hG hg hD2 hD3 hF3 hbb2
    go_wp2_with (first | (go_at_call 17; refine hsz.mono ?_; rintro e w' ⟨rfl, rfl⟩) | (go_at_call 18; refine hlm.mono ?_; rintro e w' ⟨rfl, rfl⟩) | (go_at_call 19; refine hln.mono ?_; rintro e w' ⟨rfl, rfl⟩) | (go_at_call 20; refine hca.mono ?_; rintro e w' ⟨rfl, rfl⟩))
    go_ret
    exact ⟨rfl, hbb3⟩
  · refine hg.mono ?_
    rintro e w3 hG
    obtain ⟨rfl, rfl⟩ : e = .returned (.int .i64 21) ∧ w3 = w2 := by
      rcases hG with ⟨h, _⟩ | ⟨_, _, h1, h2⟩ | ⟨_, h, _⟩ | ⟨_, h, _⟩
      · exact absurd h (by show ¬ (M : Int) < 0; omega)
      · exact ⟨h1, h2⟩
      · exact absurd h (by show ¬ (M : Int) ≤ (limit : Int); omega)
      · exact absurd h (by show ¬ (M : Int) ≤ (limit : Int); omega)
    have hbb3 := hbb2
    have hsz : Calls Try.prog 17 #[.pointer (some ⟨p, 0, none⟩)] w3 fun e w' => e = .returned (.int .i64 (size : Int)) ∧ w3 = w' := dsize_any hD2
    have hlm : Calls Try.prog 18 #[.pointer (some ⟨p, 0, none⟩)] w3 fun e w' => e = .returned (.int .i64 (limit : Int)) ∧ w3 = w' := dlimit_any hD2
    have hca : Calls Try.prog 20 #[.pointer (some ⟨p, 0, none⟩)] w3 fun e w' => e = .returned (.int .i64 0) ∧ w3 = w' := dcalls_any hD2
    have hln : Calls Try.prog 19 #[.pointer (some ⟨p, 0, none⟩)] w3 fun e w' => e = .returned (.int .i64 0) ∧ w3 = w' := dlen_any hD2
    have e1 : decide ((M : Int) ≤ (limit : Int)) = false := decide_eq_false (by omega)
    have e1' : decide (M ≤ limit) = false := decide_eq_false hml
    have e2 : decide ((limit : Int) < (M : Int)) = true := decide_eq_true (by omega)
    have e2' : decide (limit < M) = true := decide_eq_true (by omega)
    clear hG hg hD2 hbb2
    go_wp2_with (first | (go_at_call 17; refine hsz.mono ?_; rintro e w' ⟨rfl, rfl⟩) | (go_at_call 18; refine hlm.mono ?_; rintro e w' ⟨rfl, rfl⟩) | (go_at_call 19; refine hln.mono ?_; rintro e w' ⟨rfl, rfl⟩) | (go_at_call 20; refine hca.mono ?_; rintro e w' ⟨rfl, rfl⟩))
    go_ret
    exact ⟨rfl, hbb3⟩
theorem diskMakes_law (w : World) (S L N : Int) :
    Calls Try.prog 3 #[.int .i64 S, .int .i64 L, .int .i64 N] w fun e w' => e = .returned (.bool true) ∧ Below w.heap.size w w' := by
  by_cases h : NewOk S L
  · obtain ⟨size, rfl⟩ := Int.eq_ofNat_of_zero_le (show 0 ≤ S by have := h.1; omega)
    obtain ⟨limit, rfl⟩ := Int.eq_ofNat_of_zero_le (show 0 ≤ L by have := h.2.2.2.1; omega)
    obtain ⟨M, hM, hMe⟩ := and31 N
    exact diskMakes_is w size limit N h M hM hMe
  · exact diskMakes_no w S L N h
end Go.Proofs.Ythijobbhpbklmaa
