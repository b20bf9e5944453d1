/- The laws of chain: what each law's call returns, whatever comes in: true. -/
import Derived.Test.YthnehmfpadahiaaChainP
namespace Go.Proofs.Ythnehmfpadahiaa
open Go.RowKit
set_option linter.unusedVariables false
set_option linter.unusedSimpArgs false

set_option maxRecDepth 100000 in
theorem chainPuts_law (w : World) (A : Option Addr) (n c : Nat) (l : List UInt8) (h : Sl w w.heap.size A n c l) (X S : Int) (hX : 0 ≤ X) (hX' : X ≤ 4294967295) :
    Calls Try.prog 3 #[.slice A n c, .int .u32 X, .int .i64 S] w fun e w' => e = .returned (.bool true) ∧ Below w.heap.size w w' := by
  by_cases hn : 5000 < n
  · have hnb : decide (5000 < (n : Int)) = true := decide_eq_true (by omega)
    go_enter Try.func3, Try.ntmps3
    go_wp2_with (first | (go_at_call 14; refine (awake6 _).mono ?_; rintro e w1 ⟨rfl, hb1⟩))
    go_ret
    exact ⟨rfl, hb1⟩
  · have hnb : decide (5000 < (n : Int)) = false := decide_eq_false (by omega)
    have hn5 : n ≤ 5000 := by omega
    clear hn
    by_cases hok : 512 ≤ S ∧ S ≤ 4096 ∧ 1 ≤ n ∧ (n : Int) + 8 ≤ S
    · obtain ⟨h1, h2, h3, h4⟩ := hok
      obtain ⟨size, rfl⟩ := Int.eq_ofNat_of_zero_le (show 0 ≤ S by omega)
      obtain ⟨next, rfl⟩ := Int.eq_ofNat_of_zero_le hX
      have HL := Lib.hid h.len
      go_enter Try.func3, Try.ntmps3
      go_wp2_with (first | (go_at_call 14; refine (awake6 _).mono ?_; rintro e w1 ⟨rfl, hb1⟩))
      refine (cput_ok _ _ _ _ _ _ (h.belowX hb1) next size (by omega) (by omega) (by omega) h3 (by omega)).mono ?_
      rintro e w2 ⟨g2, rfl, hg2, hr2, hb2'⟩
      have hb2 := hb1.trans (hb2'.mono hb1.size)
      have hs2 := hr2.slN (n := size) (chPut_length _ _ _ (by rw [HL.out]; omega)) (by omega)
      have hcv0 := string_of_sl (P := Try.prog) Try.underlying22 Try.underlying5 Try.underlying9 (h.belowX hb2)
      go_wp2_with fail
      refine (refput_ok _ l next size (by omega) (by omega) (by omega) (by rw [HL.out]; omega) (by rw [HL.out]; omega)).mono ?_
      rintro e w3 ⟨rfl, hb3'⟩
      have hb3 := hb2.trans (hb3'.mono hb2.size)
      have hs3 := hs2.belowX hb3'
      have hcv1 := string_of_sl (P := Try.prog) Try.underlying22 Try.underlying5 Try.underlying9 hs3
      clear hcv0
      go_wp2_with fail
      refine (cget_some _ _ _ _ _ _ l next hs3 (by omega) (chGet_put _ _ _ (by omega) (by omega) (by omega) (by rw [HL.out]; omega) (by rw [HL.out]; omega))).mono ?_
      rintro e w4 ⟨A4, n4, c4, rfl, ho4, _, hb4'⟩
      have hb4 := hb3.trans (hb4'.mono hb3.size)
      have hcv2 := string_of_sl (P := Try.prog) Try.underlying22 Try.underlying5 Try.underlying9 (Sl.of_own ho4)
      have hcv3 := string_of_sl (P := Try.prog) Try.underlying22 Try.underlying5 Try.underlying9 (h.belowX hb4)
      clear hcv1
      go_wp2_with fail
      go_ret
      exact ⟨rfl, hb4⟩
    · go_enter Try.func3, Try.ntmps3
      go_wp2_with (first | (go_at_call 14; refine (awake6 _).mono ?_; rintro e w1 ⟨rfl, hb1⟩))
      obtain ⟨next, rfl⟩ := Int.eq_ofNat_of_zero_le hX
      refine (cput_no _ _ _ _ _ _ (h.belowX hb1) (by omega) next S hok).mono ?_
      rintro e w2 ⟨rfl, rfl⟩
      have hcv0 := string_of_sl (P := Try.prog) Try.underlying22 Try.underlying5 Try.underlying9 (h.belowX hb1)
      have hl := h.len
      have HOK := Lib.hid hok
      have HL := Lib.hid hl
      clear hok hl
      go_wp2_with fail
      refine (refput_no _ l (by rw [HL.out]; omega) next S (by rw [HL.out]; exact HOK.out)).mono ?_
      rintro e w3 ⟨rfl, rfl⟩
      have hcvn := string_of_sl (P := Try.prog) Try.underlying22 Try.underlying5 Try.underlying9 (Sl.nil_ w1 0)
      go_wp2_with fail
      go_ret
      exact ⟨rfl, hb1⟩

end Go.Proofs.Ythnehmfpadahiaa
