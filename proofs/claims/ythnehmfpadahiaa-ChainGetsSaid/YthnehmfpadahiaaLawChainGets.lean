/- The law ChainGets where nothing is too long: the page's bytes, spoiled, tell the same by both texts. -/
import Derived.Test.YthnehmfpadahiaaLawChain
namespace Go.Proofs.Ythnehmfpadahiaa
open Go.RowKit
set_option linter.unusedVariables false
set_option linter.unusedSimpArgs false

set_option maxRecDepth 100000 in
set_option maxHeartbeats 1000000 in
theorem chainGets_ok (w : World) (A : Option Addr) (n c : Nat) (l : List UInt8) (h : Sl w w.heap.size A n c l) (next : Nat) (S : Int) (hX : next < 4294967296)
    (A1 : Option Addr) (n1 c1 : Nat) (zs : List Int) (hz : Nums .u16 w w.heap.size A1 n1 c1 zs) (A2 : Option Addr) (n2 c2 : Nat) (l2 : List UInt8) (hx2 : Sl w w.heap.size A2 n2 c2 l2)
    (i1 : n ≤ 5000) (i2 : n1 ≤ 20) (i3 : n1 ≤ n2) (i4 : n2 ≤ 5000) (hok : 512 ≤ S ∧ S ≤ 4096 ∧ 1 ≤ n ∧ (n : Int) + 8 ≤ S) :
    Calls Try.prog 4 #[.slice A n c, .int .u32 (next : Int), .int .i64 S, .slice A1 n1 c1, .slice A2 n2 c2] w fun e w' => e = .returned (.bool true) ∧ Below w.heap.size w w' := by
  have d1 := (dec_i 5000 n).2 (by omega)
  have d2 := (dec_i 20 n1).2 (by omega)
  have d3 := (dec_n n2 n1).2 (by omega)
  have d4 := (dec_i 5000 n2).2 (by omega)
  have HL := Lib.hid h.len
  obtain ⟨o1, o2, o3, o4⟩ := hok
  obtain ⟨n0, rfl⟩ := Int.eq_ofNat_of_zero_le (show 0 ≤ S by omega)
  go_enter Try.func4, Try.ntmps4
  go_wp2_with (first | (go_at_call 14; refine (awake6 _).mono ?_; rintro e w1 ⟨rfl, hb1⟩))
  refine (cput_ok _ _ _ _ _ _ (h.belowX hb1) next n0 hX (by omega) (by omega) o3 (by omega)).mono ?_
  rintro e w2 ⟨g, rfl, hg2, hr2, hb2'⟩
  have hb2 := hb1.trans (hb2'.mono hb1.size)
  have hgw : w.heap.size ≤ g := Nat.le_trans hb1.size hg2
  obtain ⟨b0, hb0⟩ : ∃ b0, chPut l next n0 = b0 := ⟨_, rfl⟩
  have hlen := chPut_length l next n0 (by rw [HL.out]; omega)
  rw [hb0] at hr2 hlen
  have hmb0 := MB.of_row hr2
  have hcap : n0 ≤ n0 := Nat.le_refl _
  have hl01 : n0 ≤ b0.length := by omega
  have hl02 : b0.length ≤ n0 := by omega
  clear hb0 hr2 hb1 hb2' hlen
  go_wp2_with fail
  go_loopw [14] (fun i wr => ∃ (k : Nat) (bl : List UInt8), k ≤ n1 ∧ i = .int .i64 k ∧ MB wr g bl ∧ n0 ≤ bl.length ∧ bl.length ≤ n0 ∧ Below w.heap.size w wr) (fun i _ => n1 - (intOf i).toNat)
  case atStart => exact ⟨0, b0, Nat.zero_le _, rfl, hmb0, hl01, hl02, hb2⟩
  case round =>
    obtain ⟨k, bl, hk, rfl, hmb, hl1, hl2, hbw⟩ := hrel
    by_cases hlt : k < n1
    · by_cases hpos : 0 < n0
      · have hposb : decide (0 < n0) = true := decide_eq_true hpos
        have hkn2 : k < n2 := by omega
        have hnz : ¬ n0 = 0 := by omega
        obtain ⟨z, adz, rfl, hadz, hzc, hz0, hz1⟩ := (hz.below hbw).at_ hlt
        obtain ⟨adx, xb, rfl, hadx, _, hxc⟩ := (hx2.below hbw).get (show k < n2 by omega)
        obtain ⟨j, hj, hjn⟩ := spoil_idx z n0 hz0 hpos
        have hzw : IntKind.i64.wrap z = z := IntWalk.i64_in _ (by omega)
        obtain ⟨hbc, hbf⟩ := hmb.2 j bl[j] (List.getElem?_eq_getElem (by omega))
        have hxor := xor_byte bl[j] xb
        have hj0 : (0 : Int) ≤ (j : Int) := by omega
        have hj1 : (j : Int) < (n0 : Int) := by omega
        have hset := hmb.set_ j (bl[j] ^^^ xb) (by omega)
        have hbn := hbw.setCell (p := ⟨g, j, none⟩) hgw (.int .u8 ((bl[j] ^^^ xb).toNat : Int))
        go_wp2
        refine wp_still_tail 17 (by kernel_rfl) (by kernel_rfl) ?_
        simp only [List.take_succ_cons, List.take_zero, List.drop_succ_cons, List.drop_zero]
        repeat still_step
        refine wpStill_nil ?_
        go_wp2
        go_roundw
        case rel => exact ⟨k + 1, bl.set j (bl[j] ^^^ xb), by omega, by go_num, hset, by simpa using hl1, by simpa using hl2, hbn.drew⟩
        case measure => simp [intOf]; omega
      · exact absurd (show 0 < n0 by omega) hpos
    · clear hmb0 hl01 hl02 hb2
      have hN : bl.length = n0 := by omega
      have HNL := Lib.hid hN
      have hs := hmb.sl (n := n0) (c := n0) hN hcap
      clear hN hl1 hl2
      go_wp2_with fail
      refine (cget_any _ _ _ _ _ _ hs (by omega)).mono ?_
      rintro e w5 ⟨hb5', hp5⟩
      have hb5 := hbw.trans (hb5'.mono hbw.size)
      have hcvb := string_of_sl (P := Try.prog) Try.underlying22 Try.underlying5 Try.underlying9 (hs.belowX hb5')
      rcases hg : chGet bl with _ | ⟨p, x⟩
      · rw [hg] at hp5
        subst hp5
        have HG := Lib.hid hg
        clear hg
        go_wp2_with fail
        refine (refget_any _ bl (by rw [HNL.out]; omega)).mono ?_
        rintro e w6 ⟨hb6', hp6⟩
        have hb6 := hb5.trans (hb6'.mono hb5.size)
        rw [HG.out] at hp6
        subst hp6
        have hcvn := string_of_sl (P := Try.prog) Try.underlying22 Try.underlying5 Try.underlying9 (Sl.nil_ w6 0)
        clear hcvb
        go_wp2_with fail
        go_ret
        exact ⟨rfl, hb6⟩
      · rw [hg] at hp5
        obtain ⟨hx, A5, n5, c5, he5, ho5⟩ := hp5
        subst he5
        have HG := Lib.hid hg
        clear hg
        go_wp2_with fail
        refine (refget_any _ bl (by rw [HNL.out]; omega)).mono ?_
        rintro e w6 ⟨hb6', hp6⟩
        have hb6 := hb5.trans (hb6'.mono hb5.size)
        rw [HG.out] at hp6
        subst hp6
        have hcvn := string_of_sl (P := Try.prog) Try.underlying22 Try.underlying5 Try.underlying9 ((Sl.of_own ho5).belowX hb6')
        clear hcvb
        go_wp2_with fail
        go_ret
        exact ⟨rfl, hb6⟩


set_option maxRecDepth 100000 in
set_option maxHeartbeats 1000000 in
theorem chainGets_no (w : World) (A : Option Addr) (n c : Nat) (l : List UInt8) (h : Sl w w.heap.size A n c l) (next : Nat) (S : Int) (hX : next < 4294967296)
    (A1 : Option Addr) (n1 c1 : Nat) (zs : List Int) (hz : Nums .u16 w w.heap.size A1 n1 c1 zs) (A2 : Option Addr) (n2 c2 : Nat) (l2 : List UInt8) (hx2 : Sl w w.heap.size A2 n2 c2 l2)
    (i1 : n ≤ 5000) (i2 : n1 ≤ 20) (i3 : n1 ≤ n2) (i4 : n2 ≤ 5000) (hok : ¬ (512 ≤ S ∧ S ≤ 4096 ∧ 1 ≤ n ∧ (n : Int) + 8 ≤ S)) :
    Calls Try.prog 4 #[.slice A n c, .int .u32 (next : Int), .int .i64 S, .slice A1 n1 c1, .slice A2 n2 c2] w fun e w' => e = .returned (.bool true) ∧ Below w.heap.size w w' := by
  have d1 := (dec_i 5000 n).2 (by omega)
  have d2 := (dec_i 20 n1).2 (by omega)
  have d3 := (dec_n n2 n1).2 (by omega)
  have d4 := (dec_i 5000 n2).2 (by omega)
  have HL := Lib.hid h.len
  go_enter Try.func4, Try.ntmps4
  go_wp2_with (first | (go_at_call 14; refine (awake6 _).mono ?_; rintro e w1 ⟨rfl, hb1⟩))
  refine (cput_no _ _ _ _ _ _ (h.belowX hb1) (by omega) next S hok).mono ?_
  rintro e w2 ⟨rfl, rfl⟩
  have hcv2 := string_of_sl (P := Try.prog) Try.underlying22 Try.underlying5 Try.underlying9 (hx2.belowX hb1)
  obtain ⟨c0, w2, hcvx, hcap, hmb0, hb2'⟩ := bytes_of_st (P := Try.prog) w1 9 22 l2 n2 hx2.len Try.underlying9 Try.underlying22 Try.underlying5
  have hb2 := hb1.trans (hb2'.mono hb1.size)
  obtain ⟨g, hgg⟩ : ∃ g, w1.heap.size = g := ⟨_, rfl⟩
  rw [hgg] at hmb0 hcvx
  have hgw : w.heap.size ≤ g := by rw [← hgg]; exact hb1.size
  clear hgg
  obtain ⟨b0, hb0, hlb⟩ : ∃ b0 : List UInt8, MB w2 g b0 ∧ b0.length = n2 := ⟨l2, hmb0, hx2.len⟩
  obtain ⟨n0, hn0⟩ : ∃ n0, n0 = n2 := ⟨_, rfl⟩
  have hl01 : n2 ≤ b0.length := by omega
  have hl02 : b0.length ≤ n2 := by omega
  clear hlb hmb0 hb2' hn0 n0 hok
  go_wp2_with fail
  go_loopw [14] (fun i wr => ∃ (k : Nat) (bl : List UInt8), k ≤ n1 ∧ i = .int .i64 k ∧ MB wr g bl ∧ n2 ≤ bl.length ∧ bl.length ≤ n2 ∧ Below w.heap.size w wr) (fun i _ => n1 - (intOf i).toNat)
  case atStart => exact ⟨0, b0, Nat.zero_le _, rfl, hb0, hl01, hl02, hb2⟩
  case round =>
    obtain ⟨k, bl, hk, rfl, hmb, hl1, hl2, hbw⟩ := hrel
    by_cases hlt : k < n1
    · by_cases hpos : 0 < n2
      · have hposb : decide (0 < n2) = true := decide_eq_true hpos
        have hkn2 : k < n2 := by omega
        have hnz : ¬ n2 = 0 := by omega
        obtain ⟨z, adz, rfl, hadz, hzc, hz0, hz1⟩ := (hz.below hbw).at_ hlt
        obtain ⟨adx, xb, rfl, hadx, _, hxc⟩ := (hx2.below hbw).get (show k < n2 by omega)
        obtain ⟨j, hj, hjn⟩ := spoil_idx z n2 hz0 hpos
        have hzw : IntKind.i64.wrap z = z := IntWalk.i64_in _ (by omega)
        obtain ⟨hbc, hbf⟩ := hmb.2 j bl[j] (List.getElem?_eq_getElem (by omega))
        have hxor := xor_byte bl[j] xb
        have hj0 : (0 : Int) ≤ (j : Int) := by omega
        have hj1 : (j : Int) < (n2 : Int) := by omega
        have hset := hmb.set_ j (bl[j] ^^^ xb) (by omega)
        have hbn := hbw.setCell (p := ⟨g, j, none⟩) hgw (.int .u8 ((bl[j] ^^^ xb).toNat : Int))
        go_wp2
        refine wp_still_tail 17 (by kernel_rfl) (by kernel_rfl) ?_
        simp only [List.take_succ_cons, List.take_zero, List.drop_succ_cons, List.drop_zero]
        repeat still_step
        refine wpStill_nil ?_
        go_wp2
        go_roundw
        case rel => exact ⟨k + 1, bl.set j (bl[j] ^^^ xb), by omega, by go_num, hset, by simpa using hl1, by simpa using hl2, hbn.drew⟩
        case measure => simp [intOf]; omega
      · clear hb0 hl01 hl02 hb2
        have hN : bl.length = n2 := by omega
        have HNL := Lib.hid hN
        have hs := hmb.sl (n := n2) (c := c0) hN hcap
        clear hN hl1 hl2
        go_wp2_with fail
        refine (cget_any _ _ _ _ _ _ hs (by omega)).mono ?_
        rintro e w5 ⟨hb5', hp5⟩
        have hb5 := hbw.trans (hb5'.mono hbw.size)
        have hcvb := string_of_sl (P := Try.prog) Try.underlying22 Try.underlying5 Try.underlying9 (hs.belowX hb5')
        rcases hg : chGet bl with _ | ⟨p, x⟩
        · rw [hg] at hp5
          subst hp5
          have HG := Lib.hid hg
          clear hg
          go_wp2_with fail
          refine (refget_any _ bl (by rw [HNL.out]; omega)).mono ?_
          rintro e w6 ⟨hb6', hp6⟩
          have hb6 := hb5.trans (hb6'.mono hb5.size)
          rw [HG.out] at hp6
          subst hp6
          have hcvn := string_of_sl (P := Try.prog) Try.underlying22 Try.underlying5 Try.underlying9 (Sl.nil_ w6 0)
          clear hcvb
          go_wp2_with fail
          go_ret
          exact ⟨rfl, hb6⟩
        · rw [hg] at hp5
          obtain ⟨hx, A5, n5, c5, he5, ho5⟩ := hp5
          subst he5
          have HG := Lib.hid hg
          clear hg
          go_wp2_with fail
          refine (refget_any _ bl (by rw [HNL.out]; omega)).mono ?_
          rintro e w6 ⟨hb6', hp6⟩
          have hb6 := hb5.trans (hb6'.mono hb5.size)
          rw [HG.out] at hp6
          subst hp6
          have hcvn := string_of_sl (P := Try.prog) Try.underlying22 Try.underlying5 Try.underlying9 ((Sl.of_own ho5).belowX hb6')
          clear hcvb
          go_wp2_with fail
          go_ret
          exact ⟨rfl, hb6⟩
    · clear hb0 hl01 hl02 hb2
      have hN : bl.length = n2 := by omega
      have HNL := Lib.hid hN
      have hs := hmb.sl (n := n2) (c := c0) hN hcap
      clear hN hl1 hl2
      go_wp2_with fail
      refine (cget_any _ _ _ _ _ _ hs (by omega)).mono ?_
      rintro e w5 ⟨hb5', hp5⟩
      have hb5 := hbw.trans (hb5'.mono hbw.size)
      have hcvb := string_of_sl (P := Try.prog) Try.underlying22 Try.underlying5 Try.underlying9 (hs.belowX hb5')
      rcases hg : chGet bl with _ | ⟨p, x⟩
      · rw [hg] at hp5
        subst hp5
        have HG := Lib.hid hg
        clear hg
        go_wp2_with fail
        refine (refget_any _ bl (by rw [HNL.out]; omega)).mono ?_
        rintro e w6 ⟨hb6', hp6⟩
        have hb6 := hb5.trans (hb6'.mono hb5.size)
        rw [HG.out] at hp6
        subst hp6
        have hcvn := string_of_sl (P := Try.prog) Try.underlying22 Try.underlying5 Try.underlying9 (Sl.nil_ w6 0)
        clear hcvb
        go_wp2_with fail
        go_ret
        exact ⟨rfl, hb6⟩
      · rw [hg] at hp5
        obtain ⟨hx, A5, n5, c5, he5, ho5⟩ := hp5
        subst he5
        have HG := Lib.hid hg
        clear hg
        go_wp2_with fail
        refine (refget_any _ bl (by rw [HNL.out]; omega)).mono ?_
        rintro e w6 ⟨hb6', hp6⟩
        have hb6 := hb5.trans (hb6'.mono hb5.size)
        rw [HG.out] at hp6
        subst hp6
        have hcvn := string_of_sl (P := Try.prog) Try.underlying22 Try.underlying5 Try.underlying9 ((Sl.of_own ho5).belowX hb6')
        clear hcvb
        go_wp2_with fail
        go_ret
        exact ⟨rfl, hb6⟩


theorem chainGets_law (w : World) (A : Option Addr) (n c : Nat) (l : List UInt8) (h : Sl w w.heap.size A n c l) (X S : Int) (hX : 0 ≤ X) (hX' : X ≤ 4294967295)
    (A1 : Option Addr) (n1 c1 : Nat) (zs : List Int) (hz : Nums .u16 w w.heap.size A1 n1 c1 zs) (A2 : Option Addr) (n2 c2 : Nat) (l2 : List UInt8) (hx2 : Sl w w.heap.size A2 n2 c2 l2) :
    Calls Try.prog 4 #[.slice A n c, .int .u32 X, .int .i64 S, .slice A1 n1 c1, .slice A2 n2 c2] w fun e w' => e = .returned (.bool true) ∧ Below w.heap.size w w' := by
  by_cases hlong : 5000 < n ∨ 20 < n1 ∨ n2 < n1 ∨ 5000 < n2
  · exact chainGets_long w A n c l h X S hX hX' A1 n1 c1 zs hz A2 n2 c2 l2 hx2 hlong
  · obtain ⟨next, rfl⟩ := Int.eq_ofNat_of_zero_le hX
    by_cases hok : 512 ≤ S ∧ S ≤ 4096 ∧ 1 ≤ n ∧ (n : Int) + 8 ≤ S
    · exact chainGets_ok w A n c l h next S (by omega) A1 n1 c1 zs hz A2 n2 c2 l2 hx2 (by omega) (by omega) (by omega) (by omega) hok
    · exact chainGets_no w A n c l h next S (by omega) A1 n1 c1 zs hz A2 n2 c2 l2 hx2 (by omega) (by omega) (by omega) (by omega) hok

end Go.Proofs.Ythnehmfpadahiaa
