/- Layer 3: Fail, New, empty (sync.Once). -/
import Derived.Test.YthijobbhpbklmaaDisk
import Derived.Tactics
import Derived.Tactics2
import Derived.RegionTactic
import Derived.RegionCalls
import Derived.Deep.RegionHeld3
namespace Go.Proofs.Ythijobbhpbklmaa
open Go.RowKit
set_option linter.unusedVariables false
set_option linter.unusedSimpArgs false

theorem Dk.OK.failed {D : Dk} (h : D.OK) (a : Int) (ha : a ≤ 9223372036854775807) : (D.failed a).OK :=
  ⟨h.s1, h.s2, h.s3, h.l1, h.l2, h.g1, h.g2, h.o1, by show -1 ≤ (if a < -1 then -1 else a); split <;> omega, by show (if a < -1 then -1 else a) ≤ _; split <;> omega⟩
section
variable {w : World} {base : Nat} {ok : Nat → Prop} {p : Nat} {D : Dk}
theorem dfail_any (h : DiskAt w base ok p D) (a : Int) (ha : a ≤ 9223372036854775807) : Calls Try.prog 27 #[.pointer (some ⟨p, 0, none⟩), .int .i64 a] w fun e w' => e = .returned (.tuple #[]) ∧ DiskAt w' base ok p (D.failed a) ∧ At p w w' := by
  obtain ⟨G, L, dn, Z, h⟩ := h
  obtain ⟨_, _, _, _, c4, _⟩ := h.blk.cells
  have z4 := h.blk.free 4
  have hwf := h.wf
  have hb4 := h.blk.set4 (if a < -1 then -1 else a)
  have FIN := Lib.hid (show DiskAt (w.setCell ⟨p, 4, none⟩ (.int .i64 (if a < -1 then -1 else a))) base ok p (D.failed a) from
    ⟨G, L, dn, Z, h.at_ ((At.refl p w).setCell 4 _) hb4 rfl rfl rfl (hwf.failed a ha) h.cb⟩)
  have HA := Lib.hid ((At.refl p w).setCell 4 (.int .i64 (if a < -1 then -1 else a)))
  clear h hwf hb4
  by_cases hlt : a < -1
  · rw [if_pos hlt] at FIN HA
    have d1 : decide (a < -1) = true := decide_eq_true hlt
    go_enter Try.func27, Try.ntmps27
    go_wp2
    go_end0
    exact ⟨rfl, FIN.out, HA.out⟩
  · rw [if_neg hlt] at FIN HA
    have d1 : decide (a < -1) = false := decide_eq_false hlt
    go_enter Try.func27, Try.ntmps27
    go_wp2
    go_end0
    exact ⟨rfl, FIN.out, HA.out⟩
end
/-- New -/
def NewOk (S L : Int) : Prop := 512 ≤ S ∧ S ≤ 4096 ∧ S % 128 = 0 ∧ 1 ≤ L ∧ L ≤ 65536
theorem dNew_ok (size limit : Nat) (h : NewOk (size : Int) (limit : Int)) : (dNew size limit).OK := by
  obtain ⟨h1, h2, h3, h4, h5⟩ := h
  exact ⟨by show 512 ≤ size; omega, by show size ≤ 4096; omega, by show size % 128 = 0; omega, by show 1 ≤ limit; omega, by show limit ≤ 65536; omega, Nat.zero_le _, (by intro r hr; cases hr), (by intro x hx; cases hx), by show (-1 : Int) ≤ -1; omega, by show (-1 : Int) ≤ _; omega⟩
theorem dnew_is (w : World) (size limit : Nat) (h : NewOk (size : Int) (limit : Int)) (base : Nat) (ok : Nat → Prop) (hbase : base ≤ w.heap.size) (hok : ok w.heap.size) :
    Calls Try.prog 15 #[.int .i64 (size : Int), .int .i64 (limit : Int)] w fun e w' => e = .returned (.tuple #[.pointer (some ⟨w.heap.size, 0, none⟩), .int .i64 0]) ∧ DiskAt w' base ok w.heap.size (dNew size limit) ∧ Below w.heap.size w w' := by
  have hwf := dNew_ok size limit h
  obtain ⟨h1, h2, h3, h4, h5⟩ := h
  have d1 : decide ((size : Int) < 512) = false := decide_eq_false (by omega)
  have d2 : decide (4096 < (size : Int)) = false := decide_eq_false (by omega)
  have m1 : (size : Int).tmod 128 = 0 := by rw [Int.tmod_eq_emod_of_nonneg (by omega)]; exact h3
  have d4 : decide ((limit : Int) < 1) = false := decide_eq_false (by omega)
  have d5 : decide (65536 < (limit : Int)) = false := decide_eq_false (by omega)
  have hblk := heap_alloc_new w (.cells #[.int .i64 (size : Int), .int .i64 (limit : Int), .slice none 0 0, .slice none 0 0, .int .i64 (-1), .int .i64 0, .int .u32 0, .int .i32 0, .int .u32 0, .slice none 0 0] 123)
  go_enter Try.func15, Try.ntmps15
  go_wp2
  go_ret2
  refine ⟨rfl, ⟨.slice none 0 0, .slice none 0 0, 0, .slice none 0 0, hblk, hbase, hok, ⟨none, 0, [], rfl, World.ownsRow_nil _ _ _ _, by intro k hk; simp [Value.ownBlock] at hk, by intro i l hi; simp [dNew] at hi⟩, ⟨none, 0, [], rfl, World.ownsRow_nil _ _ _ _, by intro k hk; simp [Value.ownBlock] at hk, by intro i l hi; simp [dNew] at hi⟩, .inl rfl, hwf, Nat.zero_le _⟩, (Below.refl _ _).alloc (Nat.le_refl _) _⟩
theorem dnew_no (w : World) (S L : Int) (h : ¬ NewOk S L) :
    Calls Try.prog 15 #[.int .i64 S, .int .i64 L] w fun e w' => e = .returned (.tuple #[.pointer none, .int .i64 1]) ∧ w = w' := by
  by_cases h1 : S < 512
  · have d1 : decide (S < 512) = true := decide_eq_true h1
    go_enter Try.func15, Try.ntmps15
    go_wp2
    go_ret2
    exact ⟨rfl, rfl⟩
  have d1 : decide (S < 512) = false := decide_eq_false h1
  by_cases h2 : 4096 < S
  · have d2 : decide (4096 < S) = true := decide_eq_true h2
    go_enter Try.func15, Try.ntmps15
    go_wp2
    go_ret2
    exact ⟨rfl, rfl⟩
  have d2 : decide (4096 < S) = false := decide_eq_false h2
  have m1 : S.tmod 128 = S % 128 := Int.tmod_eq_emod_of_nonneg (by omega)
  by_cases h3 : S % 128 = 0
  · by_cases h4 : L < 1
    · have d4 : decide (L < 1) = true := decide_eq_true h4
      go_enter Try.func15, Try.ntmps15
      go_wp2
      go_ret2
      exact ⟨rfl, rfl⟩
    · have d4 : decide (L < 1) = false := decide_eq_false h4
      have d5 : decide (65536 < L) = true := decide_eq_true (by unfold NewOk at h; omega)
      go_enter Try.func15, Try.ntmps15
      go_wp2
      go_ret2
      exact ⟨rfl, rfl⟩
  · have d3 : (S % 128 != 0) = true := by simp [h3]
    go_enter Try.func15, Try.ntmps15
    go_wp2
    go_ret2
    exact ⟨rfl, rfl⟩
end Go.Proofs.Ythijobbhpbklmaa
