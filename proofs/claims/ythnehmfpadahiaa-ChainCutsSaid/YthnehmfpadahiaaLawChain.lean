/- The laws of chain: what each law's call returns, whatever comes in: true. -/
import Derived.Test.YthnehmfpadahiaaRef1b
import Derived.StillTailTactics
import Derived.Laws.BitsAllLaws
namespace Go.Proofs.Ythnehmfpadahiaa
open Go.RowKit
set_option linter.unusedVariables false
set_option linter.unusedSimpArgs false

set_option maxRecDepth 100000 in
theorem chainPuts_law (w : World) (A : Option Addr) (n c : Nat) (l : List UInt8) (h : Sl w w.heap.size A n c l) (X S : Int) (hX : 0 ≤ X) (hX' : X ≤ 4294967295) :
    Calls Try.prog 3 #[.slice A n c, .int .u32 X, .int .i64 S] w fun e w' => e = .returned (.bool true) ∧ Below w.heap.size w w' := by
  by_cases hn : 5000 < n
  · have hnb : decide (5000 < (n : Int)) = true := decide_eq_true (by omega)
    go_enter Try.func3, Try.ntmps3
    go_wp2_with (first | (go_at_call 14; refine (awake6 _).mono ?_; rintro e w1 ⟨rfl, hb1⟩))
    go_ret
    exact ⟨rfl, hb1⟩
  · have hnb : decide (5000 < (n : Int)) = false := decide_eq_false (by omega)
    have hn5 : n ≤ 5000 := by omega
    clear hn
    by_cases hok : 512 ≤ S ∧ S ≤ 4096 ∧ 1 ≤ n ∧ (n : Int) + 8 ≤ S
    · obtain ⟨h1, h2, h3, h4⟩ := hok
      obtain ⟨size, rfl⟩ := Int.eq_ofNat_of_zero_le (show 0 ≤ S by omega)
      obtain ⟨next, rfl⟩ := Int.eq_ofNat_of_zero_le hX
      have HL := Lib.hid h.len
      go_enter Try.func3, Try.ntmps3
      go_wp2_with (first | (go_at_call 14; refine (awake6 _).mono ?_; rintro e w1 ⟨rfl, hb1⟩))
      refine (cput_ok _ _ _ _ _ _ (h.belowX hb1) next size (by omega) (by omega) (by omega) h3 (by omega)).mono ?_
      rintro e w2 ⟨g2, rfl, hg2, hr2, hb2'⟩
      have hb2 := hb1.trans (hb2'.mono hb1.size)
      have hs2 := hr2.slN (n := size) (chPut_length _ _ _ (by rw [HL.out]; omega)) (by omega)
      have hcv0 := string_of_sl (P := Try.prog) Try.underlying22 Try.underlying5 Try.underlying9 (h.belowX hb2)
      go_wp2_with fail
      refine (refput_ok _ l next size (by omega) (by omega) (by omega) (by rw [HL.out]; omega) (by rw [HL.out]; omega)).mono ?_
      rintro e w3 ⟨rfl, hb3'⟩
      have hb3 := hb2.trans (hb3'.mono hb2.size)
      have hs3 := hs2.belowX hb3'
      have hcv1 := string_of_sl (P := Try.prog) Try.underlying22 Try.underlying5 Try.underlying9 hs3
      clear hcv0
      go_wp2_with fail
      refine (cget_some _ _ _ _ _ _ l next hs3 (by omega) (chGet_put _ _ _ (by omega) (by omega) (by omega) (by rw [HL.out]; omega) (by rw [HL.out]; omega))).mono ?_
      rintro e w4 ⟨A4, n4, c4, rfl, ho4, _, hb4'⟩
      have hb4 := hb3.trans (hb4'.mono hb3.size)
      have hcv2 := string_of_sl (P := Try.prog) Try.underlying22 Try.underlying5 Try.underlying9 (Sl.of_own ho4)
      have hcv3 := string_of_sl (P := Try.prog) Try.underlying22 Try.underlying5 Try.underlying9 (h.belowX hb4)
      clear hcv1
      go_wp2_with fail
      go_ret
      exact ⟨rfl, hb4⟩
    · go_enter Try.func3, Try.ntmps3
      go_wp2_with (first | (go_at_call 14; refine (awake6 _).mono ?_; rintro e w1 ⟨rfl, hb1⟩))
      obtain ⟨next, rfl⟩ := Int.eq_ofNat_of_zero_le hX
      refine (cput_no _ _ _ _ _ _ (h.belowX hb1) (by omega) next S hok).mono ?_
      rintro e w2 ⟨rfl, rfl⟩
      have hcv0 := string_of_sl (P := Try.prog) Try.underlying22 Try.underlying5 Try.underlying9 (h.belowX hb1)
      have hl := h.len
      have HOK := Lib.hid hok
      have HL := Lib.hid hl
      clear hok hl
      go_wp2_with fail
      refine (refput_no _ l (by rw [HL.out]; omega) next S (by rw [HL.out]; exact HOK.out)).mono ?_
      rintro e w3 ⟨rfl, rfl⟩
      have hcvn := string_of_sl (P := Try.prog) Try.underlying22 Try.underlying5 Try.underlying9 (Sl.nil_ w1 0)
      go_wp2_with fail
      go_ret
      exact ⟨rfl, hb1⟩

theorem xor_byte (a b : UInt8) : bits BinOp.xor IntKind.u8 (a.toNat : Int) (b.toNat : Int) = ((a ^^^ b).toNat : Int) := by
  rw [u8_xor_nat _ _ a.toNat_lt b.toNat_lt]
  simp

set_option maxRecDepth 100000 in
theorem chainGets_long (w : World) (A : Option Addr) (n c : Nat) (l : List UInt8) (h : Sl w w.heap.size A n c l) (X S : Int) (hX : 0 ≤ X) (hX' : X ≤ 4294967295)
    (A1 : Option Addr) (n1 c1 : Nat) (zs : List Int) (hz : Nums .u16 w w.heap.size A1 n1 c1 zs) (A2 : Option Addr) (n2 c2 : Nat) (l2 : List UInt8) (h2 : Sl w w.heap.size A2 n2 c2 l2)
    (hlong : 5000 < n ∨ 20 < n1 ∨ n2 < n1 ∨ 5000 < n2) :
    Calls Try.prog 4 #[.slice A n c, .int .u32 X, .int .i64 S, .slice A1 n1 c1, .slice A2 n2 c2] w fun e w' => e = .returned (.bool true) ∧ Below w.heap.size w w' := by
  clear h hz h2
  have e1 := dec_i 5000 n
  have e2 := dec_i 20 n1
  have e3 := dec_n n2 n1
  have e4 := dec_i 5000 n2
  by_cases b1 : 5000 < n
  · have d1 := e1.1 (by omega)
    clear hlong b1 e1 e2 e3 e4
    go_enter Try.func4, Try.ntmps4
    go_wp2_with (first | (go_at_call 14; refine (awake6 _).mono ?_; rintro e w1 ⟨rfl, hb1⟩))
    go_ret
    exact ⟨rfl, hb1⟩
  · have d1 := e1.2 (by omega)
    by_cases b2 : 20 < n1
    · have d2 := e2.1 (by omega)
      clear hlong b1 b2 e1 e2 e3 e4
      go_enter Try.func4, Try.ntmps4
      go_wp2_with (first | (go_at_call 14; refine (awake6 _).mono ?_; rintro e w1 ⟨rfl, hb1⟩))
      go_ret
      exact ⟨rfl, hb1⟩
    · have d2 := e2.2 (by omega)
      by_cases b3 : n2 < n1
      · have d3 := e3.1 b3
        clear hlong b1 b2 b3 e1 e2 e3 e4
        go_enter Try.func4, Try.ntmps4
        go_wp2_with (first | (go_at_call 14; refine (awake6 _).mono ?_; rintro e w1 ⟨rfl, hb1⟩))
        go_ret
        exact ⟨rfl, hb1⟩
      · have d3 := e3.2 b3
        have d4 := e4.1 (by omega)
        clear hlong b1 b2 b3 e1 e2 e3 e4
        go_enter Try.func4, Try.ntmps4
        go_wp2_with (first | (go_at_call 14; refine (awake6 _).mono ?_; rintro e w1 ⟨rfl, hb1⟩))
        go_ret
        exact ⟨rfl, hb1⟩

set_option maxRecDepth 100000 in
theorem chainBounds_out (w : World) (X S : Int) (hX : 0 ≤ X) (hX' : X ≤ 4294967295) (hS : ¬ (512 ≤ S ∧ S ≤ 4096)) :
    Calls Try.prog 5 #[.int .i64 S, .int .u32 X] w fun e w' => e = .returned (.bool true) ∧ Below w.heap.size w w' := by
  obtain ⟨next, rfl⟩ := Int.eq_ofNat_of_zero_le hX
  by_cases h1 : S < 512
  · have d1 : decide (S < 512) = true := decide_eq_true h1
    go_enter Try.func5, Try.ntmps5
    go_wp2_with (first | (go_at_call 14; refine (awake6 _).mono ?_; rintro e w1 ⟨rfl, hb1⟩))
    refine (cput_no _ _ _ _ _ _ (Sl.lit w1 [1] #[.int .u8 1] rfl 1 rfl (0, 0)) (by omega) next S (by omega)).mono ?_
    rintro e w2 ⟨rfl, rfl⟩
    go_wp2_with fail
    go_ret
    exact ⟨rfl, hb1.alloc hb1.size _⟩
  · have d1 : decide (S < 512) = false := decide_eq_false h1
    have d2 : decide (4096 < S) = true := decide_eq_true (by omega)
    go_enter Try.func5, Try.ntmps5
    go_wp2_with (first | (go_at_call 14; refine (awake6 _).mono ?_; rintro e w1 ⟨rfl, hb1⟩))
    refine (cput_no _ _ _ _ _ _ (Sl.lit w1 [1] #[.int .u8 1] rfl 1 rfl (0, 0)) (by omega) next S (by omega)).mono ?_
    rintro e w2 ⟨rfl, rfl⟩
    go_wp2_with fail
    go_ret
    exact ⟨rfl, hb1.alloc hb1.size _⟩

set_option maxRecDepth 100000 in
set_option maxHeartbeats 1000000 in
theorem chainBounds_in (w : World) (next size : Nat) (hX : next < 4294967296) (h1 : 512 ≤ size) (h2 : size ≤ 4096) :
    Calls Try.prog 5 #[.int .i64 (size : Int), .int .u32 (next : Int)] w fun e w' => e = .returned (.bool true) ∧ Below w.heap.size w w' := by
  have d1 : decide ((size : Int) < 512) = false := decide_eq_false (by omega)
  have d2 : decide (4096 < (size : Int)) = false := decide_eq_false (by omega)
  go_enter Try.func5, Try.ntmps5
  go_wp2_with (first | (go_at_call 14; refine (awake6 _).mono ?_; rintro e w1 ⟨rfl, hb1⟩))
  refine (cput_no _ 0 _ _ _ [] (Sl.nil_ _ _) (by omega) next size (by omega)).mono ?_
  rintro e w2 ⟨rfl, rfl⟩
  go_wp2_with (first | (at_make; refine wpList_make_bytesN _ rfl _ _ _ rfl Try.underlying22 info_u8 _ _ _ rfl rfl 1 (by omega) (by omega) ?_; intro w2 hr2 hb2'))
  have hb2 := hb1.trans (hb2'.mono hb1.size)
  refine (cput_ok _ _ _ _ _ _ (hr2.slN (by simp) (by omega)) next size hX h1 h2 (by omega) (by omega)).mono ?_
  rintro e w3 ⟨g3, rfl, _, hr3, hb3'⟩
  have hb3 := hb2.trans (hb3'.mono hb2.size)
  clear hr2 hr3 hb2' hb3' hb2 hb1
  go_wp2_with (first | (at_make; refine wpList_make_bytesN _ rfl _ _ _ rfl Try.underlying22 info_u8 _ _ _ rfl rfl (size - 8) (by omega) (by omega) ?_; intro w4 hr4 hb4'))
  have hb4 := hb3.trans (hb4'.mono hb3.size)
  refine (cput_ok _ _ _ _ _ _ (hr4.slN (by simp) (by omega)) next size hX h1 h2 (by omega) (by omega)).mono ?_
  rintro e w5 ⟨g5, rfl, _, hr5, hb5'⟩
  have hb5 := hb4.trans (hb5'.mono hb4.size)
  clear hr4 hr5 hb4' hb5' hb4 hb3
  go_wp2_with (first | (at_make; refine wpList_make_bytesN _ rfl _ _ _ rfl Try.underlying22 info_u8 _ _ _ rfl rfl (size - 7) (by omega) (by omega) ?_; intro w6 hr6 hb6'))
  have hb6 := hb5.trans (hb6'.mono hb5.size)
  refine (cput_no _ _ _ _ _ _ (hr6.slN (n := size - 7) (by simp) (by omega)) (by omega) next size (by omega)).mono ?_
  rintro e w7 ⟨rfl, rfl⟩
  clear hr6 hb6' hb5
  have q1 : ((size : Int) - 8 - 1) / ((size : Int) - 8) + 1 = 1 := by rw [Int.ediv_eq_zero_of_lt (by omega) (by omega)]; rfl
  have q2 : ((size : Int) - 7 - 1) / ((size : Int) - 8) + 1 = 2 := by
    have : (size : Int) - 7 - 1 = (size : Int) - 8 := by omega
    rw [this, Int.ediv_self (by omega)]; rfl
  go_wp2_with (first | (go_at_call 19; refine (many_ok _ _ _ (by omega) (by omega) (by omega) (by omega)).mono ?_; rintro e w' ⟨rfl, rfl⟩))
  go_ret
  exact ⟨rfl, hb6⟩

theorem chainBounds_law (w : World) (X S : Int) (hX : 0 ≤ X) (hX' : X ≤ 4294967295) :
    Calls Try.prog 5 #[.int .i64 S, .int .u32 X] w fun e w' => e = .returned (.bool true) ∧ Below w.heap.size w w' := by
  by_cases hS : 512 ≤ S ∧ S ≤ 4096
  · obtain ⟨next, rfl⟩ := Int.eq_ofNat_of_zero_le hX
    obtain ⟨size, rfl⟩ := Int.eq_ofNat_of_zero_le (show 0 ≤ S by omega)
    exact chainBounds_in w next size (by omega) (by omega) (by omega)
  · exact chainBounds_out w X S hX hX' hS

end Go.Proofs.Ythnehmfpadahiaa
