/- FreedSpreads. -/
import Derived.Test.YthmkmojlnfkfjaaFRow
namespace Go.Proofs.Ythmkmojlnfkfjaa
open Go.RowKit
set_option linter.unusedVariables false
set_option linter.unusedSimpArgs false

/-- A world that has grown from another. -/
def RB (w0 w : World) : Prop := Below w0.heap.size w0 w
theorem RB.step {w0 w w' : World} (hb : Below w.heap.size w w') (h : RB w0 w) : RB w0 w' := Below.trans h (hb.mono (Below.size h))

set_option maxRecDepth 100000 in
set_option maxHeartbeats 4000000 in
theorem freedSpreads_law (w : World) (A : Option Addr) (n c : Nat) (ps : List FP) (h : Prs w w.heap.size A n ps) (hnc : n ≤ c) (hc : c ≤ maxLen) (P S : Int) (hP1 : -9223372036854775808 ≤ P) (hP2 : P ≤ 9223372036854775807) :
    Calls Try.prog 3 #[.slice A n c, .int .i64 P, .int .i64 S] w fun e w' => e = .returned (.bool true) ∧ Below w.heap.size w w' := by
  unfold maxLen at hc
  have hlen := h.len
  go_enter Try.func3, Try.ntmps3
  go_wp2_with fail
  refine (awake10 w).mono ?_
  rintro e w1 ⟨rfl, hb1⟩
  have h1 := h.below hb1
  have hz1 := hb1.size
  by_cases hn : 300 < n
  · have hnd : decide (300 < n) = true := decide_eq_true hn
    have hni : (300 : Int) < (n : Int) := by omega
    go_wp2_with fail
    go_ret
    exact ⟨rfl, hb1⟩
  have hnd : decide (300 < n) = false := decide_eq_false hn
  have hni : ¬ (300 : Int) < (n : Int) := by omega
  by_cases hp : 100 < P ∧ P ≤ 65536
  · obtain ⟨hp1, hp2⟩ := hp
    have hd1 : decide (100 < P) = true := decide_eq_true hp1
    have hd2 : decide (P ≤ 65536) = true := decide_eq_true hp2
    go_wp2_with fail
    go_ret
    exact ⟨rfl, hb1⟩
  have hpp : P ≤ 100 ∨ (100 < P ∧ ¬ P ≤ 65536) := by omega
  have key : ∀ w2 : World, Below w.heap.size w w2 → True := fun _ _ => trivial
  rcases hpp with hpp | ⟨hpp, hpp'⟩
  case inr =>
    have hd1 : decide (100 < P) = true := decide_eq_true hpp
    have hd2 : decide (P ≤ 65536) = false := decide_eq_false hpp'
    go_wp2_with fail
    refine (pairs_any w1 _ A n c ps h1 hz1 (by omega)).mono ?_
    rintro e w2 ⟨Av, cv, rfl, hown2, hb2⟩
    have hp2 := Prs.of_own hown2
    have hbb2 := hb1.trans (hb2.mono hz1)
    go_wp2_with fail
    refine (fspread_any w2 _ Av n cv ps hp2 (Nat.le_refl _) (by omega) P S).mono ?_
    rintro e w3 ⟨hb3, hcase⟩
    have he : e = .returned (.tuple #[.slice none 0 0, .int .i64 1]) := by
      rcases hcase with ⟨_, he⟩ | ⟨hin, _⟩ | ⟨hin, _⟩
      · exact he
      · exact absurd hin.2.2.2 (by omega)
      · exact absurd hin.2.2.2 (by omega)
    subst he
    have hbb3 := hbb2.trans (hb3.mono hbb2.size)
    have hd3 : decide (65536 < P) = true := decide_eq_true (by omega)
    have hd4 : decide (P < 0) = false := decide_eq_false (by omega)
    clear hcase
    by_cases s1 : S < 512
    · have t1 : decide (S < 512) = true := decide_eq_true s1
      go_wp2_with fail
      go_ret
      exact ⟨rfl, hbb3⟩
    · have t1 : decide (S < 512) = false := decide_eq_false s1
      by_cases s2 : 4096 < S
      · have t2 : decide (4096 < S) = true := decide_eq_true s2
        go_wp2_with fail
        go_ret
        exact ⟨rfl, hbb3⟩
      · have t2 : decide (4096 < S) = false := decide_eq_false s2
        go_wp2_with fail
        go_ret
        exact ⟨rfl, hbb3⟩
  have hd1 : decide (100 < P) = false := decide_eq_false (by omega)
  go_wp2_with fail
  refine (pairs_any w1 _ A n c ps h1 hz1 (by omega)).mono ?_
  rintro e w2 ⟨Av, cv, rfl, hown2, hb2⟩
  have hp2 := Prs.of_own hown2
  have hbb2 := hb1.trans (hb2.mono hz1)
  go_wp2_with fail
  refine (fspread_any w2 _ Av n cv ps hp2 (Nat.le_refl _) (by omega) P S).mono ?_
  rintro e w3 ⟨hb3, hcase⟩
  have hbb3 := hbb2.trans (hb3.mono hbb2.size)
  clear hown2 hp2 key
  by_cases s1 : S < 512
  · have t1 : decide (S < 512) = true := decide_eq_true s1
    have he : e = .returned (.tuple #[.slice none 0 0, .int .i64 1]) := by
      rcases hcase with ⟨_, he⟩ | ⟨hin, _⟩ | ⟨hin, _⟩
      · exact he
      · omega
      · omega
    subst he
    clear hcase
    go_wp2_with fail
    go_ret
    exact ⟨rfl, hbb3⟩
  have t1 : decide (S < 512) = false := decide_eq_false s1
  by_cases s2 : 4096 < S
  · have t2 : decide (4096 < S) = true := decide_eq_true s2
    have he : e = .returned (.tuple #[.slice none 0 0, .int .i64 1]) := by
      rcases hcase with ⟨_, he⟩ | ⟨hin, _⟩ | ⟨hin, _⟩
      · exact he
      · omega
      · omega
    subst he
    clear hcase
    go_wp2_with fail
    go_ret
    exact ⟨rfl, hbb3⟩
  have t2 : decide (4096 < S) = false := decide_eq_false s2
  by_cases s3 : P < 0
  · have t3 : decide (P < 0) = true := decide_eq_true s3
    have he : e = .returned (.tuple #[.slice none 0 0, .int .i64 1]) := by
      rcases hcase with ⟨_, he⟩ | ⟨hin, _⟩ | ⟨hin, _⟩
      · exact he
      · omega
      · omega
    subst he
    clear hcase
    go_wp2_with fail
    go_ret
    exact ⟨rfl, hbb3⟩
  have t3 : decide (P < 0) = false := decide_eq_false s3
  have t4 : decide (65536 < P) = false := decide_eq_false (by omega)
  obtain ⟨pg, rfl⟩ := Int.eq_ofNat_of_zero_le (show 0 ≤ P by omega)
  obtain ⟨size, rfl⟩ := Int.eq_ofNat_of_zero_le (show 0 ≤ S by omega)
  obtain ⟨M, hM⟩ : ∃ M, fMany (n : Int) (size : Int) = M := ⟨_, rfl⟩
  have hmany := fun W => rmany_any W (n : Int) (size : Int) (by omega) (by omega)
  rw [hM] at hmany
  rw [hlen, hM] at hcase
  clear hM
  rcases hcase with ⟨hno, _⟩ | ⟨_, hq, rfl⟩ | ⟨_, hq, As, cs', css, rfl, hown3, hrows⟩
  · exact absurd ⟨by omega, by omega, by omega, by omega⟩ hno
  · have hqd : decide ((pg : Int) < M) = true := decide_eq_true hq
    go_wp2_with fail
    refine (hmany _).mono ?_
    rintro e w' ⟨rfl, rfl⟩
    clear hmany
    go_wp2_with fail
    go_ret
    exact ⟨rfl, hbb3⟩
  have hqd : decide ((pg : Int) < M) = false := decide_eq_false (by omega)
  have hqd' : ¬ (pg : Int) < M := by omega
  rw [Int.toNat_natCast, Int.toNat_natCast] at hrows
  rw [Int.toNat_natCast] at hown3 ⊢
  go_wp2_with fail
  refine (hmany _).mono ?_
  rintro e w' ⟨rfl, rfl⟩
  clear hmany
  have h3 := h1.below ((hb2.trans (hb3.mono hb2.size)).mono hz1)
  have hz3 : w.heap.size ≤ w'.heap.size := hbb3.size
  have hR3 := Reads.of_own hown3
  have hcl : css.length = pg := by have := hR3.1; omega
  go_wp2_with fail
  go_loopw [10] (fun i wr => ∃ k : Nat, k ≤ pg ∧ i = .int .i64 (k : Int) ∧ Below w'.heap.size w' wr) (fun i _ => pg - (intOf i).toNat)
  case atStart => exact ⟨0, Nat.zero_le _, rfl, Below.refl _ _⟩
  case round =>
    obtain ⟨k, hk, rfl, hbw⟩ := hrel
    by_cases hlt : k < pg
    · obtain ⟨A0, n0, g0, p0⟩ := hrows.2 k hlt
      obtain ⟨ads, rfl, hadb, hcs⟩ := hR3.2 (by omega)
      have k0 : w'.cell? (ads.add k) = some (.slice A0 n0 n0) := hcs k _ g0
      have hbs := hbw.size
      have HC := Lib.hid (fun W (hW : RB wr W) => (show W.cell? (ads.add k) = some (.slice A0 n0 n0) from
        (Below.cell hW (p := ads.add k) (by rw [block_of_add]; omega)).trans ((hbw.cell (p := ads.add k) (by rw [block_of_add]; omega)).trans k0)))
      have HP := Lib.hid (fun W (hW : RB wr W) => (p0.below (hbw.trans (Below.mono hW hbs))))
      have HA := Lib.hid (fun W (hW : RB wr W) => (h3.below ((hbw.trans (Below.mono hW hbs)).mono hz3)))
      have HZ := Lib.hid (fun W (hW : RB wr W) => (show w'.heap.size ≤ W.heap.size from Nat.le_trans hbs (Below.size hW)))
      have hn0 : n0 ≤ n := by have := p0.len; rw [List.length_take, List.length_drop] at this; omega
      have HRS := Lib.hid hrows
      have HRR := Lib.hid hR3
      clear hrows hR3 hcs g0 k0 p0 h1 hown3
      have hr0 : RB wr wr.drew := (Below.refl _ _).drew
      go_wp2_with fail
      go_region_held3 (fun W => W.cell? (ads.add k) = some (.slice A0 n0 n0)) (exact HC.out _ (by assumption)) (first
        | (go_at_call 14; refine (frow_any _ _ A n c ps (HA.out _ (by assumption)) hnc (by omega) k size (by omega) (by omega) (by omega)).mono ?_; rintro e wx ⟨A7, n7, c7, rfl, hpr, hn7, rfl⟩)
        | (go_at_call 13; refine (alike_any _ _ _ A0 A7 n0 n0 n7 c7 _ _ (HP.out _ (by assumption)) hpr (HZ.out _ (by assumption)) (Nat.le_trans hz3 (HZ.out _ (by assumption))) (by omega) (by omega) rfl).mono ?_; rintro e wx ⟨rfl, hbx⟩; have hrx := RB.step hbx (by assumption)))
      go_wp2_with fail
      exact ⟨⟨k + 1, by omega, by go_num, hbw.trans (Below.mono (by assumption) hbs)⟩, by simp [intOf]; omega⟩
    · obtain rfl : k = pg := by omega
      go_wp2_with fail
      go_ret
      exact ⟨rfl, hbb3.trans (hbw.mono hbb3.size)⟩

end Go.Proofs.Ythmkmojlnfkfjaa
