/- ChainCuts: how bytes are cut, and how many pages they need. -/
import Derived.Test.YthnehmfpadahiaaCutR
import Derived.Test.YthnehmfpadahiaaLawChainOwn
namespace Go.Proofs.Ythnehmfpadahiaa
open Go.RowKit
set_option linter.unusedVariables false
set_option linter.unusedSimpArgs false

set_option maxRecDepth 100000 in
set_option maxHeartbeats 1000000 in
theorem chainCuts_law (w : World) (A : Option Addr) (n c : Nat) (l : List UInt8) (h : Sl w w.heap.size A n c l) (S N : Int) (hN : N ≤ 9223372036854775807) (hN' : -9223372036854775808 ≤ N) :
    Calls Try.prog 6 #[.slice A n c, .int .i64 S, .int .i64 N] w fun e w' => e = .returned (.bool true) ∧ Below w.heap.size w w' := by
  by_cases hn : 9000 < n
  · have hnb : decide (9000 < (n : Int)) = true := decide_eq_true (by omega)
    go_enter Try.func6, Try.ntmps6
    go_wp2_with (first | (go_at_call 14; refine (awake6 _).mono ?_; rintro e w1 ⟨rfl, hb1⟩))
    go_ret
    exact ⟨rfl, hb1⟩
  · have hnb : decide (9000 < (n : Int)) = false := decide_eq_false (by omega)
    have hn9 : n ≤ 9000 := by omega
    have hHl := Lib.hid h.len
    clear hn
    by_cases hok : 512 ≤ S ∧ S ≤ 4096
    · obtain ⟨size, rfl⟩ := Int.eq_ofNat_of_zero_le (show 0 ≤ S by omega)
      have hs1 : 512 ≤ size := by omega
      have hs2 : size ≤ 4096 := by omega
      clear hok
      obtain ⟨Z, hZ⟩ : ∃ Z, manyZ N (size : Int) = Z := ⟨_, rfl⟩
      obtain ⟨K, hK⟩ : ∃ K, chK n (size - 8) = K := ⟨_, rfl⟩
      have hKz : manyZ (n : Int) (size : Int) = (K : Int) := by
        unfold manyZ
        by_cases h0 : 1 ≤ (n : Int)
        · rw [if_pos ⟨h0, by omega, by omega⟩]
          simp only [Int.toNat_natCast]
          rw [hK]
        · rw [if_neg (fun hh => h0 hh.1), ← hK]
          have : ¬ 0 < chK n (size - 8) := fun hh => by have := (chK_iff n (size - 8) 0 (by omega)).1 hh; omega
          omega
      have hKb : K ≤ 9000 := by
        rcases Nat.lt_or_ge 9000 K with h9 | h9
        · have := (chK_iff n (size - 8) 9000 (by omega)).1 (by rw [hK]; exact h9)
          omega
        · exact h9
      go_enter Try.func6, Try.ntmps6
      go_wp2_with (first | (go_at_call 14; refine (awake6 _).mono ?_; rintro e w1 ⟨rfl, hb1⟩))
      refine (cut_ok w1 A n c l size ((h.belowX hb1).more hb1.size) (by omega) (by omega) (by omega)).mono ?_
      rintro e w2 ⟨Av, nv, cv, cs, rfl, hnv, ho, hp, hb2'⟩
      have hb2 := hb1.trans (hb2'.mono hb1.size)
      obtain rfl : nv = K := hnv.out.trans hK
      have hcv0 := string_of_sl (P := Try.prog) Try.underlying22 Try.underlying5 Try.underlying9 (h.belowX hb2)
      clear hK
      go_wp2_with fail
      refine (refcut_ok _ l size hs1 hs2 (by rw [hHl.out]; omega)).mono ?_
      rintro e w3 ⟨Aw, nw, cw, rfl, hnw, how, hb3'⟩
      have hb3 := hb2.trans (hb3'.mono hb2.size)
      obtain rfl : nw = nv := by rw [hnw.out, hHl.out, hnv.out]
      clear hcv0
      have hlen : cs.length = nw := by rw [hp.1, List.length_map, List.length_range, hnv.out]
      go_wp2_with fail
      refine (cmany_any _ N (size : Int) hN hN').mono ?_
      rintro e w4 ⟨rfl, rfl⟩
      rw [hZ]
      go_wp2_with fail
      refine (rmany_any _ N (size : Int) hN hN').mono ?_
      rintro e w5 ⟨rfl, rfl⟩
      rw [hZ]
      go_wp2_with fail
      refine (cmany_any _ (n : Int) (size : Int) (by omega) (by omega)).mono ?_
      rintro e w6 ⟨rfl, rfl⟩
      rw [hKz]
      clear hZ hKz
      go_wp2_with fail
      go_loopw [10] (fun i wr => ∃ k : Nat, k ≤ nw ∧ i = .int .i64 (k : Int) ∧ Below w6.heap.size w6 wr) (fun i _ => nw - (intOf i).toNat)
      case atStart => exact ⟨0, Nat.zero_le _, rfl, Below.refl _ _⟩
      case round =>
        obtain ⟨k, hk, rfl, hbw⟩ := hrel
        by_cases hlt : k < nw
        · obtain ⟨gl, rfl, hgl, hgl2, hlc⟩ := own_cells ho (by omega)
          obtain ⟨gw, rfl, hgw, hgw2, hwc⟩ := own_cells how (by omega)
          obtain ⟨A0, n0, c0, p, hx0, hpe, ho0⟩ := hp.2 k _ (List.getElem?_eq_getElem (show k < cs.length by omega))
          have hpp : p = chL l (size - 8) k := by
            rw [List.getElem?_map, List.getElem?_range (by rw [← hnv.out]; exact hlt)] at hpe
            simpa using hpe.symm
          have hc0 := hlc k _ (List.getElem?_eq_getElem (show k < cs.length by omega))
          rw [hx0] at hc0
          have hb26 : Below w2.heap.size w2 wr := hb3'.trans (hbw.mono hb3'.size)
          have hcl : wr.drew.cell? ⟨gl, k, none⟩ = some (.slice A0 n0 c0) := (hb26.cell (p := ⟨gl, k, none⟩) hgl2).trans hc0
          have hcv := string_of_sl (P := Try.prog) Try.underlying22 Try.underlying5 Try.underlying9 ((Sl.of_own (own_below ho0 hb26 (Nat.le_refl _))).below (Below.refl _ _).drew)
          have hw0 := hwc k (.string ⟨p.toArray⟩) (by unfold strC; rw [List.getElem?_map, List.getElem?_range hlt, hpp]; rfl)
          have hcw : wr.drew.cell? ⟨gw, k, none⟩ = some (.string ⟨p.toArray⟩) := (hbw.cell (p := ⟨gw, k, none⟩) hgw2).trans hw0
          clear hx0 hpe hpp hc0 hw0 hlc hwc ho0 hp hlen
          go_wp2_with fail
          go_still (by kernel_rfl)
          go_wp2
          go_roundw
          case rel => exact ⟨k + 1, hlt, by go_num, hbw.drew⟩
          case measure => simp [intOf]; omega
        · obtain rfl : k = nw := by omega
          go_wp2_with fail
          go_ret
          exact ⟨rfl, hb3.trans (hbw.mono hb3.size)⟩
    · go_enter Try.func6, Try.ntmps6
      go_wp2_with (first | (go_at_call 14; refine (awake6 _).mono ?_; rintro e w1 ⟨rfl, hb1⟩))
      refine (cut_no w1 A n c S hok).mono ?_
      rintro e w2 ⟨rfl, hb2'⟩
      have hb2 := hb1.trans (hb2'.mono hb1.size)
      have hcv0 := string_of_sl (P := Try.prog) Try.underlying22 Try.underlying5 Try.underlying9 (h.belowX hb2)
      go_wp2_with fail
      refine (refcut_no _ l S hok).mono ?_
      rintro e w3 ⟨rfl, rfl⟩
      clear hcv0
      obtain ⟨Z, hZ⟩ : ∃ Z, manyZ N S = Z := ⟨_, rfl⟩
      have hKz : manyZ (n : Int) S = 0 := by unfold manyZ; exact if_neg (fun hh => hok hh.2)
      go_wp2_with fail
      refine (cmany_any _ N S hN hN').mono ?_
      rintro e w4 ⟨rfl, rfl⟩
      rw [hZ]
      go_wp2_with fail
      refine (rmany_any _ N S hN hN').mono ?_
      rintro e w5 ⟨rfl, rfl⟩
      rw [hZ]
      go_wp2_with fail
      refine (cmany_any _ (n : Int) S (by omega) (by omega)).mono ?_
      rintro e w6 ⟨rfl, rfl⟩
      rw [hKz]
      clear hZ hKz
      go_wp2_with fail
      go_loopw [10] (fun i wr => i = .int .i64 0 ∧ wr = w6) (fun _ _ => 0)
      case atStart => exact ⟨rfl, rfl⟩
      case round =>
        obtain ⟨rfl, rfl⟩ := hrel
        go_wp2_with fail
        go_ret
        exact ⟨rfl, hb2⟩

end Go.Proofs.Ythnehmfpadahiaa
