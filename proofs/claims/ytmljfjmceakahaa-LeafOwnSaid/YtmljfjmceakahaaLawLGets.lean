/- LeafGets. -/
import Derived.Test.YtmljfjmceakahaaLEnt
import Derived.Test.YtmljfjmceakahaaLRaws
import Derived.Deep.DeepCutAuto
namespace Go.Proofs.Ytmljfjmceakahaa
open Go.RowKit
set_option linter.unusedVariables false
set_option linter.unusedSimpArgs false

theorem xor_byte (a b : UInt8) : bits BinOp.xor IntKind.u8 (a.toNat : Int) (b.toNat : Int) = ((a ^^^ b).toNat : Int) := by
  rw [u8_xor_nat _ _ a.toNat_lt b.toNat_lt]
  simp


/-- What Put gives where it doesn't go. -/
theorem lput_nogo (w : World) (B : Nat) (A : Option Addr) (n c : Nat) (es : List LE) (h : LEnts w B A n es) (hBw : B ≤ w.heap.size) (hn : n ≤ 1000000) (hsh : LSh es) (S : Int) (hR : ¬ (LRight es S ∧ (lFill es : Int) ≤ S)) :
    ∃ E : Int, (E = 1 ∨ E = 21) ∧ ∀ W, RB w W → Calls Try.prog 29 #[.slice A n c, .int .i64 S] W fun e w' => e = .returned (.tuple #[.slice none 0 0, .int .i64 E]) ∧ Below W.heap.size W w' := by
  by_cases h1 : LRight es S
  · exact ⟨21, .inr rfl, fun W hW => lput_full W B A n c es (h.below (Below.mono hW hBw)) (Nat.le_trans hBw (Below.size hW)) hn hsh S h1 (by have : ¬ (lFill es : Int) ≤ S := fun h2 => hR ⟨h1, h2⟩; omega)⟩
  · exact ⟨1, .inl rfl, fun W hW => lput_arg W B A n c es (h.below (Below.mono hW hBw)) (Nat.le_trans hBw (Below.size hW)) hn hsh S h1⟩

set_option maxRecDepth 100000 in
set_option maxHeartbeats 2000000 in
theorem leafGets_law (w : World) (A : Option Addr) (n c : Nat) (rs : List LE) (h : LEnts w w.heap.size A n rs) (hn : n ≤ 9223372036854775807) (S : Int)
    (A1 : Option Addr) (n1 c1 : Nat) (zs : List Int) (hz : Nums .u16 w w.heap.size A1 n1 c1 zs) (A2 : Option Addr) (n2 c2 : Nat) (l2 : List UInt8) (hx2 : Sl w w.heap.size A2 n2 c2 l2) (hn1 : n1 ≤ 9223372036854775807) (hn2 : n2 ≤ 9223372036854775807) :
    Calls Try.prog 9 #[.slice A n c, .int .i64 S, .slice A1 n1 c1, .slice A2 n2 c2] w fun e w' => e = .returned (.bool true) ∧ Below w.heap.size w w' := by
  go_enter Try.func9, Try.ntmps9
  go_wp2_with fail
  refine (awake4 w).mono ?_
  rintro e w1 ⟨rfl, hb1⟩
  have h1 := h.below hb1
  go_wp2_with fail
  refine (lfew_any _ _ _ _ _ _ h1 hb1.size hn).mono ?_
  rintro e w2 ⟨b, rfl, hb, hb2'⟩
  have hb2 := hb1.trans (hb2'.mono hb1.size)
  have h2 := h.below hb2
  clear h1 hb1 hb2'
  cases b with
  | false =>
    clear hb
    go_wp2_with fail
    go_ret
    exact ⟨rfl, hb2⟩
  | true =>
    obtain ⟨hf1, hf2⟩ := hb.1 rfl
    rw [h.1] at hf1
    clear hb
    by_cases c20 : 20 < n1
    · have d20 : decide (20 < (n1 : Int)) = true := decide_eq_true (by omega)
      go_wp2_with fail
      go_ret
      exact ⟨rfl, hb2⟩
    have d20 : decide (20 < (n1 : Int)) = false := decide_eq_false (by omega)
    by_cases c21 : n2 < n1
    · have d21 : decide (n2 < n1) = true := decide_eq_true c21
      go_wp2_with fail
      go_ret
      exact ⟨rfl, hb2⟩
    have d21 : decide (n2 < n1) = false := decide_eq_false c21
    go_wp2_with fail
    refine (lentries_any _ _ _ _ _ _ h2 hb2.size hf1 hf2 true).mono ?_
    rintro e w3 ⟨es0, Al, cl, Aw, cw, rfl, hl30, h32, hfs, _, _, hE, hRE, hb3'⟩
    have hb3 := hb2.trans (hb3'.mono hb2.size)
    obtain ⟨m, hm⟩ : ∃ m, es0.length = m := ⟨_, rfl⟩
    rw [hm] at hl30 hE hRE ⊢
    have hsh : LSh es0 := fun e he => by have := hfs e he; omega
    clear h2 hb2 hb3' hm hRE d20 d21
    by_cases hgo : LRight es0 S ∧ (lFill es0 : Int) ≤ S
    · have hS1 := hgo.1.1
      obtain ⟨size, rfl⟩ := Int.eq_ofNat_of_zero_le (show 0 ≤ S by omega)
      have hS2 := hgo.1.2.1
      have hfit : lFill es0 ≤ size := by have := hgo.2; omega
      have hput := lput_ok _ _ _ _ cl _ hE (Nat.le_refl _) (by omega) size hgo.1 hfit
      have hL0 := lPut_length es0 size hfit
      have hpg : LPage es0 (lPut es0 size) := ⟨by rw [hL0]; exact hgo.1, by rw [hL0]; exact hfit, by rw [hL0]⟩
      obtain ⟨b0, hb0⟩ : ∃ b0, lPut es0 size = b0 := ⟨_, rfl⟩
      rw [hb0] at hput hL0 hpg
      have hS1 : 512 ≤ size := by omega
      clear hgo hE hb0
      go_wp2_with fail
      refine hput.mono ?_
      rintro e w4 ⟨g, rfl, hg, hrow, hb4'⟩
      have hb4 := hb3.trans (hb4'.mono hb3.size)
      have hgw : w.heap.size ≤ g := Nat.le_trans hb3.size hg
      have hmb0 := MB.of_row hrow
      obtain ⟨n0, hn0⟩ : ∃ n0, n0 = size := ⟨_, rfl⟩
      have hl01 : size ≤ b0.length := by omega
      have hl02 : b0.length ≤ size := by omega
      have hKE : Hid (n1 = 0 → ∃ es, LOkL es ∧ LPage es b0) := Lib.hid (fun _ => ⟨es0, h32, hpg⟩)
      have hsz : size ≤ 9223372036854775807 := by omega
      have hpos0 : 0 < size := by omega
      clear hput hrow hb4' hb3 hn0 hL0 hpg
      go_wp2_with fail
      go_loopw [15] (fun i wr => ∃ (k : Nat) (bl : List UInt8), k ≤ n1 ∧ i = .int .i64 k ∧ MB wr g bl ∧ size ≤ bl.length ∧ bl.length ≤ size ∧ Hid (k = 0 → bl = b0) ∧ Below w.heap.size w wr) (fun i _ => n1 - (intOf i).toNat)
      case atStart => exact ⟨0, b0, Nat.zero_le _, rfl, hmb0, hl01, hl02, Lib.hid (fun _ => rfl), hb4⟩
      case round =>
        obtain ⟨k, bl, hk, rfl, hmb, hl1, hl2, hk0, hbw⟩ := hrel
        by_cases hlt : k < n1
        · by_cases hpos : 0 < size
          · have hposb : decide (0 < size) = true := decide_eq_true hpos
            have hkn2 : k < n2 := by omega
            have hnz : ¬ size = 0 := by omega
            obtain ⟨z, adz, rfl, hadz, hzc, hz0, hz1⟩ := (hz.below hbw).at_ hlt
            obtain ⟨adx, xb, rfl, hadx, _, hxc⟩ := (hx2.below hbw).get (show k < n2 by omega)
            obtain ⟨j, hj, hjn⟩ := spoil_idx z size hz0 hpos
            have hzw : IntKind.i64.wrap z = z := IntWalk.i64_in _ (by omega)
            obtain ⟨hbc, hbf⟩ := hmb.2 j bl[j] (List.getElem?_eq_getElem (by omega))
            have hxor := xor_byte bl[j] xb
            have hj0 : (0 : Int) ≤ (j : Int) := by omega
            have hj1 : (j : Int) < (size : Int) := by omega
            have hset := hmb.set_ j (bl[j] ^^^ xb) (by omega)
            have hbn := hbw.setCell (p := ⟨g, j, none⟩) hgw (.int .u8 ((bl[j] ^^^ xb).toNat : Int))
            go_wp2
            refine wp_still_tail 17 (by kernel_rfl) (by kernel_rfl) ?_
            simp only [List.take_succ_cons, List.take_zero, List.drop_succ_cons, List.drop_zero]
            repeat still_step
            refine wpStill_nil ?_
            go_wp2
            go_roundw
            case rel => exact ⟨k + 1, bl.set j (bl[j] ^^^ xb), by omega, by go_num, hset, by simpa using hl1, by simpa using hl2, Lib.hid (fun h => absurd h (by omega)), hbn.drew⟩
            case measure => simp [intOf]; omega
          · exact absurd (show 0 < size by omega) hpos
        · clear hmb0 hl01 hl02 hb4
          obtain rfl : k = n1 := by omega
          have hN : bl.length = size := by omega
          have hcapN : size ≤ size := by omega
          have hs := hmb.sl (n := size) (c := size) hN hcapN
          have HN := Lib.hid hN
          clear hN hl1 hl2 hmb
          go_wp2_with fail
          refine (lget_any _ _ _ _ _ _ hs (Nat.le_refl _) (by omega)).mono ?_
          rintro e w5 ⟨hb5', ⟨rfl, hno⟩ | ⟨es, Ay, ny, cy, csy, rfl, hes, hp, howy, hLPy⟩⟩
          · have hb5 := hbw.trans (hb5'.mono hbw.size)
            have hk1 : 0 < k := by
              rcases Nat.eq_zero_or_pos k with h0 | h0
              · obtain ⟨es, h1, h2⟩ := hKE.out h0
                rw [← hk0.out h0] at h2
                exact absurd h2 (hno es h1)
              · exact h0
            have hk1d : decide (0 < (k : Int)) = true := decide_eq_true (by omega)
            clear hno hs
            go_wp2_with fail
            go_ret
            exact ⟨rfl, hb5⟩
          · have hb5 := hbw.trans (hb5'.mono hbw.size)
            have hEy := hLPy.ents howy
            have hRy := hp.right
            have hfy := hp.fits
            have hpp := hp.page
            have hyl := hEy.1
            rw [HN.out] at hRy hfy hpp
            have hny : ny ≤ 1000 := by
              have h2 := pFill_sum es hRy
              have h3 := hRy.2.1
              omega
            have hs5 := hs.below hb5'
            have hput5 := lput_ok _ _ _ _ cy _ hEy (Nat.le_refl _) hny size hRy hfy
            rw [hpp] at hput5
            have hbr := fun W (hW : Below w5.heap.size w5 W) => lright_any W _ _ _ cy _ (hEy.below hW) hW.size (by omega) (fun e he => (hRy.sh.2.1 e he).2) (fun e he => by have := (hRy.sh.2.1 e he).1; omega) (size : Int)
            have hfl := fun W (hW : Below w5.heap.size w5 W) => lfill_any W _ _ _ cy _ (hEy.below hW) hW.size (by omega) hRy.sh.2.1
            obtain ⟨F, hF⟩ : ∃ F, lFill es = F := ⟨_, rfl⟩
            rw [hF] at hfl
            have hFd : decide ((F : Int) ≤ (size : Int)) = true := decide_eq_true (by omega)
            have hFdn : decide (F ≤ size) = true := decide_eq_true (by omega)
            have HRY := Lib.hid hRy
            clear hRy hfy hpp hyl hp hs hb5' hF howy hLPy
            go_wp2_with fail
            refine hput5.mono ?_
            rintro e w6 ⟨q, rfl, hq, hrow6, hb6'⟩
            have hb6 := hb5.trans (hb6'.mono hb5.size)
            have hcv1 := string_of_sl (P := Try.prog) Try.underlying23 Try.underlying5 Try.underlying9 (hrow6.slN (n := size) HN.out (by omega))
            have hcv2 := string_of_sl (P := Try.prog) Try.underlying23 Try.underlying5 Try.underlying9 (hs5.lt'.below hb6')
            have hbr6 := hbr w6 hb6'
            have hb56 := hb6'
            clear hput5 hrow6 hb6' hbr hs5
            go_wp2_with fail
            refine hbr6.mono ?_
            rintro e w7 ⟨rb, rfl, hrb, hb7'⟩
            have hb7 := hb6.trans (hb7'.mono hb6.size)
            obtain rfl : rb = true := hrb.2 HRY.out
            have hfl7 := hfl w7 (hb56.trans (hb7'.mono hb56.size))
            clear hrb hbr6 hcv1 hcv2 hfl
            go_wp2_with fail
            refine hfl7.mono ?_
            rintro e w8 ⟨rfl, hb8'⟩
            have hb8 := hb7.trans (hb8'.mono hb7.size)
            clear hfl7
            go_wp2_with fail
            go_ret
            exact ⟨rfl, hb8⟩
    · obtain ⟨E, hE1, hputW⟩ := lput_nogo w3 _ _ _ cl _ hE (Nat.le_refl _) (by omega) hsh S hgo
      have hput := hputW w3 (Below.refl _ _)
      have hEb : (E != 0) = true := by rcases hE1 with rfl | rfl <;> rfl
      clear hgo hE
      go_wp2_with fail
      refine hput.mono ?_
      rintro e w4 ⟨rfl, hb4'⟩
      have hb4 := hb3.trans (hb4'.mono hb3.size)
      have hcv2 := string_of_sl (P := Try.prog) Try.underlying23 Try.underlying5 Try.underlying9 (hx2.below hb4)
      obtain ⟨c0, w5, hcvx, hcap, hmb0, hb5'⟩ := bytes_of_st (P := Try.prog) w4 9 23 l2 n2 hx2.len Try.underlying9 Try.underlying23 Try.underlying5
      have hb5 := hb4.trans (hb5'.mono hb4.size)
      obtain ⟨g, hgg⟩ : ∃ g, w4.heap.size = g := ⟨_, rfl⟩
      rw [hgg] at hmb0 hcvx
      have hgw : w.heap.size ≤ g := by rw [← hgg]; exact hb4.size
      obtain ⟨b0, hb0, hlb⟩ : ∃ b0 : List UInt8, MB w5 g b0 ∧ b0.length = n2 := ⟨l2, hmb0, hx2.len⟩
      have hl01 : n2 ≤ b0.length := by omega
      have hl02 : b0.length ≤ n2 := by omega
      clear hput hputW hb4' hb3 hgg hlb hmb0 hb5'
      go_wp2_with fail
      clear hcv2 hcvx
      go_loopw [15] (fun i wr => ∃ (k : Nat) (bl : List UInt8), k ≤ n1 ∧ i = .int .i64 k ∧ MB wr g bl ∧ n2 ≤ bl.length ∧ bl.length ≤ n2 ∧ Hid (k = 0 → bl = b0) ∧ Below w.heap.size w wr) (fun i _ => n1 - (intOf i).toNat)
      case atStart => exact ⟨0, b0, Nat.zero_le _, rfl, hb0, hl01, hl02, Lib.hid (fun _ => rfl), hb5⟩
      case round =>
        obtain ⟨k, bl, hk, rfl, hmb, hl1, hl2, hk0, hbw⟩ := hrel
        by_cases hlt : k < n1
        · by_cases hpos : 0 < n2
          · have hposb : decide (0 < n2) = true := decide_eq_true hpos
            have hkn2 : k < n2 := by omega
            have hnz : ¬ n2 = 0 := by omega
            obtain ⟨z, adz, rfl, hadz, hzc, hz0, hz1⟩ := (hz.below hbw).at_ hlt
            obtain ⟨adx, xb, rfl, hadx, _, hxc⟩ := (hx2.below hbw).get (show k < n2 by omega)
            obtain ⟨j, hj, hjn⟩ := spoil_idx z n2 hz0 hpos
            have hzw : IntKind.i64.wrap z = z := IntWalk.i64_in _ (by omega)
            obtain ⟨hbc, hbf⟩ := hmb.2 j bl[j] (List.getElem?_eq_getElem (by omega))
            have hxor := xor_byte bl[j] xb
            have hj0 : (0 : Int) ≤ (j : Int) := by omega
            have hj1 : (j : Int) < (n2 : Int) := by omega
            have hset := hmb.set_ j (bl[j] ^^^ xb) (by omega)
            have hbn := hbw.setCell (p := ⟨g, j, none⟩) hgw (.int .u8 ((bl[j] ^^^ xb).toNat : Int))
            go_wp2
            refine wp_still_tail 17 (by kernel_rfl) (by kernel_rfl) ?_
            simp only [List.take_succ_cons, List.take_zero, List.drop_succ_cons, List.drop_zero]
            repeat still_step
            refine wpStill_nil ?_
            go_wp2
            go_roundw
            case rel => exact ⟨k + 1, bl.set j (bl[j] ^^^ xb), by omega, by go_num, hset, by simpa using hl1, by simpa using hl2, Lib.hid (fun h => absurd h (by omega)), hbn.drew⟩
            case measure => simp [intOf]; omega
          · exact absurd (show 0 < n2 by omega) hpos
        · clear hb0 hl01 hl02 hb5
          obtain rfl : k = n1 := by omega
          have hN : bl.length = n2 := by omega
          have hcapN : n2 ≤ c0 := by omega
          have hs := hmb.sl (n := n2) (c := c0) hN hcapN
          have HN := Lib.hid hN
          clear hN hl1 hl2 hmb
          go_wp2_with fail
          refine (lget_any _ _ _ _ _ _ hs (Nat.le_refl _) (by omega)).mono ?_
          rintro e w5 ⟨hb5', ⟨rfl, hno⟩ | ⟨es, Ay, ny, cy, csy, rfl, hes, hp, howy, hLPy⟩⟩
          · have hb5 := hbw.trans (hb5'.mono hbw.size)
            clear hno hs
            go_wp2_with fail
            go_ret
            exact ⟨rfl, hb5⟩
          · have hb5 := hbw.trans (hb5'.mono hbw.size)
            have hEy := hLPy.ents howy
            have hRy := hp.right
            have hfy := hp.fits
            have hpp := hp.page
            have hyl := hEy.1
            rw [HN.out] at hRy hfy hpp
            have hny : ny ≤ 1000 := by
              have h2 := pFill_sum es hRy
              have h3 := hRy.2.1
              omega
            have hs5 := hs.below hb5'
            have hput5 := lput_ok _ _ _ _ cy _ hEy (Nat.le_refl _) hny n2 hRy hfy
            rw [hpp] at hput5
            have hbr := fun W (hW : Below w5.heap.size w5 W) => lright_any W _ _ _ cy _ (hEy.below hW) hW.size (by omega) (fun e he => (hRy.sh.2.1 e he).2) (fun e he => by have := (hRy.sh.2.1 e he).1; omega) (n2 : Int)
            have hfl := fun W (hW : Below w5.heap.size w5 W) => lfill_any W _ _ _ cy _ (hEy.below hW) hW.size (by omega) hRy.sh.2.1
            obtain ⟨F, hF⟩ : ∃ F, lFill es = F := ⟨_, rfl⟩
            rw [hF] at hfl
            have hFd : decide ((F : Int) ≤ (n2 : Int)) = true := decide_eq_true (by omega)
            have hFdn : decide (F ≤ n2) = true := decide_eq_true (by omega)
            have HRY := Lib.hid hRy
            clear hRy hfy hpp hyl hp hs hb5' hF howy hLPy
            go_wp2_with fail
            refine hput5.mono ?_
            rintro e w6 ⟨q, rfl, hq, hrow6, hb6'⟩
            have hb6 := hb5.trans (hb6'.mono hb5.size)
            have hcv1 := string_of_sl (P := Try.prog) Try.underlying23 Try.underlying5 Try.underlying9 (hrow6.slN (n := n2) HN.out (by omega))
            have hcv2 := string_of_sl (P := Try.prog) Try.underlying23 Try.underlying5 Try.underlying9 (hs5.lt'.below hb6')
            have hbr6 := hbr w6 hb6'
            have hb56 := hb6'
            clear hput5 hrow6 hb6' hbr hs5
            go_wp2_with fail
            refine hbr6.mono ?_
            rintro e w7 ⟨rb, rfl, hrb, hb7'⟩
            have hb7 := hb6.trans (hb7'.mono hb6.size)
            obtain rfl : rb = true := hrb.2 HRY.out
            have hfl7 := hfl w7 (hb56.trans (hb7'.mono hb56.size))
            clear hrb hbr6 hcv1 hcv2 hfl
            go_wp2_with fail
            refine hfl7.mono ?_
            rintro e w8 ⟨rfl, hb8'⟩
            have hb8 := hb7.trans (hb8'.mono hb7.size)
            clear hfl7
            go_wp2_with fail
            go_ret
            exact ⟨rfl, hb8⟩

end Go.Proofs.Ytmljfjmceakahaa
