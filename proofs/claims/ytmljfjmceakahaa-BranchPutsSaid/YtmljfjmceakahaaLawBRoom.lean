/- BranchRoom. -/
import Derived.Test.YtmljfjmceakahaaBEntF
import Derived.Test.YtmljfjmceakahaaBFew
import Derived.Test.YtmljfjmceakahaaRaws
namespace Go.Proofs.Ytmljfjmceakahaa
open Go.RowKit
set_option linter.unusedVariables false
set_option linter.unusedSimpArgs false

set_option maxRecDepth 100000 in
set_option maxHeartbeats 1000000 in
theorem branchRoom_law (w : World) (A : Option Addr) (n c : Nat) (rs : List (List UInt8 × Nat)) (h : Ents w w.heap.size A n rs) (hn : n ≤ 9223372036854775807) (S : Int) :
    Calls Try.prog 7 #[.slice A n c, .int .i64 S] w fun e w' => e = .returned (.bool true) ∧ Below w.heap.size w w' := by
  go_enter Try.func7, Try.ntmps7
  go_wp2_with fail
  refine (awake5 w).mono ?_
  rintro e w1 ⟨rfl, hb1⟩
  have h1 := h.below hb1
  go_wp2_with fail
  refine (bfew_any _ _ _ _ _ _ h1 hb1.size hn).mono ?_
  rintro e w2 ⟨b, rfl, hb, hb2'⟩
  have hb2 := hb1.trans (hb2'.mono hb1.size)
  have h2 := h.below hb2
  clear h1 hb1 hb2'
  cases b with
  | false =>
    clear hb
    go_wp2_with fail
    go_ret
    exact ⟨rfl, hb2⟩
  | true =>
    obtain ⟨hf1, hf2⟩ := hb.1 rfl
    rw [h.1] at hf1
    clear hb
    go_wp2_with fail
    refine (entries_any _ _ _ _ _ _ h2 hb2.size hf1 hf2 true).mono ?_
    rintro e w3 ⟨es, Al, cl, Aw, cw, rfl, hl30, h32, hk120, hE, hRE, hb3'⟩
    have hb3 := hb2.trans (hb3'.mono hb2.size)
    obtain ⟨m, hm⟩ : ∃ m, es.length = m := ⟨_, rfl⟩
    rw [hm] at hl30 hE hRE ⊢
    have HM := Lib.hid hm
    clear h2 hb2 hb3' hm hRE
    go_wp2_with fail
    refine (bright_any _ _ _ _ _ _ hE (Nat.le_refl _) (by omega) S).mono ?_
    rintro e w4 ⟨rb, rfl, hrb, hb4'⟩
    have hb4 := hb3.trans (hb4'.mono hb3.size)
    have hE4 := hE.below hb4'
    have hz4 := hb4'.size
    clear hE hb3 hb4'
    generalize w3.heap.size = B4 at hE4 hz4
    cases rb with
    | false =>
      clear hrb
      go_wp2_with fail
      go_ret
      exact ⟨rfl, hb4⟩
    | true =>
      have hR := hrb.1 rfl
      have hS1 := hR.1
      have hS2 := hR.2.1
      obtain ⟨size, rfl⟩ := Int.eq_ofNat_of_zero_le (show 0 ≤ S by omega)
      clear hrb
      go_wp2_with fail
      go_loopw [9, 10] (fun f i wr => ∃ k F : Nat, k ≤ m ∧ f = .int .i64 (F : Int) ∧ i = .int .i64 (k : Int) ∧ Hid (F = bFill (es.take k)) ∧ F ≤ 4 + k * 127 ∧ wr = w4) (fun _ i _ => m - (intOf i).toNat)
      case atStart => exact ⟨0, 4, Nat.zero_le _, rfl, rfl, Lib.hid (by simp [bFill]), by omega, rfl⟩
      case round =>
        obtain ⟨k, F, hkn, rfl, rfl, hF, hFb, rfl⟩ := hrel
        by_cases hlt : k < m
        · obtain ⟨ky, x, ad, Ak, nk, ck, he, hx, rfl, hB, a0, a1, hsl⟩ := (hE4.at_ hlt)
          have hnk : nk ≤ 120 := by rw [← hsl.len]; exact hk120 _ (List.mem_of_getElem? he)
          have hFk : F + 7 + nk = bFill (es.take (k + 1)) := by
            rw [bFill_take he, ← hF.out, hsl.len]
          have HFk := Lib.hid hFk
          clear hFk a1 he
          go_wp2_with fail
          refine ⟨⟨k + 1, F + 7 + nk, hlt, by go_num, by go_num, HFk, by omega, by trivial⟩, by simp [intOf]; omega⟩
        · obtain rfl : k = m := by omega
          have hFF := hF.out
          rw [List.take_of_length_le (by rw [HM.out]; exact Nat.le_refl _)] at hFF
          have hk96 : ∀ e ∈ es, e.1.length ≤ 1000000 := fun e he => by have := hk120 e he; omega
          by_cases hfit : bFill es ≤ size
          · have hput := bput_ok wr _ _ _ cl _ hE4 hz4 (by omega) size hR hfit
            have hfill := fun W hW => bfill_any W _ _ _ cl _ (hE4.below (w' := W) hW)
            rw [← hFF] at hfit
            have HFF := Lib.hid hFF
            have hd : decide ((F : Int) ≤ (size : Int)) = true := decide_eq_true (by omega)
            have hdn : decide (F ≤ size) = true := decide_eq_true hfit
            clear hF hFF hR
            go_wp2_with fail
            refine hput.mono ?_
            rintro e w5 ⟨g, rfl, hg, hrow, hb5'⟩
            have hb5 := hb4.trans (hb5'.mono hb4.size)
            have hE5 := hE4.below (hb5'.mono hz4)
            have hz5 := Nat.le_trans hz4 hb5'.size
            clear hput hrow hb5' hb4
            go_wp2_with fail
            refine (bfill_any _ _ _ _ _ _ hE5 hz5 (by omega) hk96).mono ?_
            rintro e w6 ⟨rfl, hb6'⟩
            have hb6 := hb5.trans (hb6'.mono hb5.size)
            rw [← HFF.out]
            clear hb5 hE5
            go_wp2_with fail
            go_ret
            exact ⟨rfl, hb6⟩
          · have hput := bput_full wr _ _ _ cl _ hE4 hz4 (by omega) (size : Int) hR (by omega)
            rw [← hFF] at hfit
            have HFF := Lib.hid hFF
            have hd : decide ((F : Int) ≤ (size : Int)) = false := decide_eq_false (by omega)
            have hdn : decide (F ≤ size) = false := decide_eq_false hfit
            clear hF hFF hR
            go_wp2_with fail
            refine hput.mono ?_
            rintro e w5 ⟨rfl, hb5'⟩
            have hb5 := hb4.trans (hb5'.mono hb4.size)
            have hE5 := hE4.below (hb5'.mono hz4)
            have hz5 := Nat.le_trans hz4 hb5'.size
            clear hput hb5' hb4
            go_wp2_with fail
            refine (bfill_any _ _ _ _ _ _ hE5 hz5 (by omega) hk96).mono ?_
            rintro e w6 ⟨rfl, hb6'⟩
            have hb6 := hb5.trans (hb6'.mono hb5.size)
            rw [← HFF.out]
            clear hb5 hE5
            go_wp2_with fail
            go_ret
            exact ⟨rfl, hb6⟩

end Go.Proofs.Ytmljfjmceakahaa
