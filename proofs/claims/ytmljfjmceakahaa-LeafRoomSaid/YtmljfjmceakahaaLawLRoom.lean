/- LeafRoom. -/
import Derived.Test.YtmljfjmceakahaaLEnt
import Derived.Test.YtmljfjmceakahaaLRaws
namespace Go.Proofs.Ytmljfjmceakahaa
open Go.RowKit
set_option linter.unusedVariables false
set_option linter.unusedSimpArgs false

/-- l[:m] of entries. -/
theorem lents_cut_h (A : Option Addr) (n c m : Nat) (hm : m ≤ n) (hc : n ≤ c) (h0 : 0 < c) :
    ∃ A' : Option Addr, (∀ W : World, (Instr.slice 58 (.slice A n c) none (some (.int .i64 (m : Int))) none).run Try.prog W = .ok (.slice A' m c) W) ∧
      ∀ (w : World) (B : Nat) (es : List LE), LEnts w B A n es → LEnts w B A' m (es.take m) := by
  obtain ⟨ib, bi0, bz0, bz1, bz2⟩ := info_parts info_lent
  refine ⟨if c = 0 then A else A.map (·.add (0 * 4)), fun W => ?_, fun w B es h => ⟨by rw [List.length_take, h.1]; omega, fun i e hi => ?_⟩⟩
  · have hel : Try.prog.elem 58 = 70 := by simp [Program.elem, Try.underlying58]
    have hu : Try.prog.underlying 58 = some (.slice (Try.prog.elem 58)) := by rw [hel]; exact Try.underlying58
    rw [run_slice_h W _ A n c hu .i64 (m : Int) (Int.natCast_nonneg _) (by omega), hel]
    simp [sizeOf, typeInfo, bi0, bz1, sliced, Result.andThen]
  · rw [List.getElem?_take] at hi
    split at hi
    · obtain ⟨ho, ad, Ak, nk, ck, Av, nv, cv, rfl, hl⟩ := h.2 i e hi
      refine ⟨ho, ad.add (0 * 4), Ak, nk, ck, Av, nv, cv, by rw [if_neg (by omega)]; rfl, ?_⟩
      rw [add_of_add, show 0 * 4 + i * 4 = i * 4 by omega]
      exact hl
    · cases hi

set_option maxRecDepth 100000 in
set_option maxHeartbeats 2000000 in
theorem leafRoom_law (w : World) (A : Option Addr) (n c : Nat) (rs : List LE) (h : LEnts w w.heap.size A n rs) (hn : n ≤ 9223372036854775807) (S : Int) :
    Calls Try.prog 12 #[.slice A n c, .int .i64 S] w fun e w' => e = .returned (.bool true) ∧ Below w.heap.size w w' := by
  go_enter Try.func12, Try.ntmps12
  go_wp2_with fail
  refine (awake4 w).mono ?_
  rintro e w1 ⟨rfl, hb1⟩
  have h1 := h.below hb1
  go_wp2_with fail
  refine (lfew_any _ _ _ _ _ _ h1 hb1.size hn).mono ?_
  rintro e w2 ⟨b, rfl, hb, hb2'⟩
  have hb2 := hb1.trans (hb2'.mono hb1.size)
  have h2 := h.below hb2
  clear h1 hb1 hb2'
  cases b with
  | false =>
    clear hb
    go_wp2_with fail
    go_ret
    exact ⟨rfl, hb2⟩
  | true =>
    obtain ⟨hf1, hf2⟩ := hb.1 rfl
    rw [h.1] at hf1
    clear hb
    go_wp2_with fail
    refine (lentries_any _ _ _ _ _ _ h2 hb2.size hf1 hf2 true).mono ?_
    rintro e w3 ⟨es, Al, cl, Aw, cw, rfl, hl30, hokl, hfs, hstr, hlc, hE, hRE, hb3'⟩
    have hb3 := hb2.trans (hb3'.mono hb2.size)
    obtain ⟨m, hm⟩ : ∃ m, es.length = m := ⟨_, rfl⟩
    rw [hm] at hl30 hE hRE hlc ⊢
    have hsh : LSh es := fun e he => by have := hfs e he; omega
    have HM := Lib.hid hm
    clear h2 hb2 hb3' hm
    clear hRE hstr hokl
    have hz3 : w3.heap.size ≤ w3.heap.size := Nat.le_refl _
    go_wp2_with fail
    go_loopw [9, 10] (fun f i wr => ∃ k F : Nat, k ≤ m ∧ f = .int .i64 (F : Int) ∧ i = .int .i64 (k : Int) ∧ Hid (F = lFill (es.take k)) ∧ F ≤ 4 + k * 2000012 ∧ Below w3.heap.size w3 wr) (fun _ i _ => m - (intOf i).toNat)
    case atStart => exact ⟨0, 4, Nat.zero_le _, rfl, rfl, Lib.hid (by simp [lFill]), by omega, Below.refl _ _⟩
    case round =>
      obtain ⟨k, F, hkn, rfl, rfl, hF, hFb, hbw⟩ := hrel
      have hEr := hE.below hbw
      have hzr := hbw.size
      have hbz := hb3.trans (hbw.mono hb3.size)
      by_cases hlt : k < m
      · obtain ⟨e, ad, Ak, nk, ck, Av, nv, cv, he, ho, rfl, hl⟩ := hEr.at_ hlt
        obtain ⟨a0, a1, a2, a3⟩ := hl.cells
        have hs1 := hsh _ (List.mem_of_getElem? he)
        have hks := hl.2.2.2.2.2.1.len
        have hvs := hl.2.2.2.2.2.2.len
        have hcell := fun W => lcell_any W e Ak nk ck Av nv cv hks hvs (by omega) (by omega)
        have hlong := lLong_le e hs1
        have hFk : F + 2 + lLong e = lFill (es.take (k + 1)) := by rw [lFill_take he, ← hF.out]
        obtain ⟨A2, hcut, hE2⟩ := lents_cut_h (some ad) m cl (k + 1) hlt hlc (by omega)
        have hsh2 : LSh (es.take (k + 1)) := fun e he => hsh e (List.mem_of_mem_take he)
        have hfill := fun W (hW : Below w3.heap.size w3 W) => lfill_any W w3.heap.size A2 (k + 1) cl (es.take (k + 1)) (hE2 _ _ _ (hE.below hW)) hW.size (by omega) hsh2
        obtain ⟨L, hL⟩ : ∃ L, lLong e = L := ⟨_, rfl⟩
        rw [hL] at hcell hlong hFk
        rw [← hFk] at hfill
        have hcut' : ∀ W : World, (Instr.slice 58 (.slice (some ad) m cl) none (some (.int .i64 ((k : Int) + 1))) none).run Try.prog W = .ok (.slice A2 (k + 1) cl) W := hcut
        have HFk := Lib.hid hFk
        obtain ⟨G, hG⟩ : ∃ G, F + 2 + L = G := ⟨_, rfl⟩
        rw [hG] at hfill HFk
        have hGs : (F : Int) + (2 + (L : Int)) = (G : Int) := by omega
        have hGb : G ≤ 4 + (k + 1) * 2000012 := by omega
        clear hFk he hks hvs hL hl hE2 hcut hG hEr
        go_wp2_with fail
        refine (hcell _).mono ?_
        rintro r w4 ⟨rfl, hb4'⟩
        have hb4 := hbw.trans (hb4'.mono hzr)
        clear hcell a0 a1 a2 a3
        go_wp2_with fail
        refine (hfill _ hb4).mono ?_
        rintro r w5 ⟨rfl, hb5'⟩
        have hb5 := hb4.trans (hb5'.mono hb4.size)
        clear hfill
        go_wp2_with fail
        exact ⟨⟨k + 1, G, hlt, by go_num, by go_num, HFk, hGb, hb5⟩, by simp [intOf]; omega⟩
      · obtain rfl : k = m := by omega
        have hFF := hF.out
        rw [List.take_of_length_le (by rw [HM.out]; exact Nat.le_refl _)] at hFF
        have HFF := Lib.hid hFF
        clear hF hFF
        go_wp2_with fail
        refine (lright_any _ _ _ _ _ _ hEr hzr (by omega) (fun e he => (hsh e he).2) (fun e he => by have := (hsh e he).1; omega) S).mono ?_
        rintro e w4 ⟨rb, rfl, hrb, hb4'⟩
        have hbw4 := hbw.trans (hb4'.mono hzr)
        have hb4 := hb3.trans (hbw4.mono hb3.size)
        have hE4 := hE.below hbw4
        have hz4 := hbw4.size
        clear hEr hb4' hbz
        cases rb with
        | false =>
          clear hrb
          go_wp2_with fail
          go_ret
          exact ⟨rfl, hb4⟩
        | true =>
          have hR := hrb.1 rfl
          have hS1 := hR.1
          have hS2 := hR.2.1
          obtain ⟨size, rfl⟩ := Int.eq_ofNat_of_zero_le (show 0 ≤ S by omega)
          clear hrb
          by_cases hfit : lFill es ≤ size
          · have hput := lput_ok w4 _ _ _ cl _ hE4 hz4 (by omega) size hR hfit
            rw [← HFF.out] at hfit
            have hd : decide ((F : Int) ≤ (size : Int)) = true := decide_eq_true (by omega)
            have hdn : decide (F ≤ size) = true := decide_eq_true hfit
            clear hR
            go_wp2_with fail
            refine hput.mono ?_
            rintro e w5 ⟨g, rfl, hg, hrow, hb5'⟩
            have hbw5 := hbw4.trans (hb5'.mono hz4)
            have hb5 := hb3.trans (hbw5.mono hb3.size)
            have hE5 := hE.below hbw5
            have hz5 := hbw5.size
            clear hput hrow hb5' hb4
            go_wp2_with fail
            refine (lfill_any _ _ _ _ _ _ hE5 hz5 (by omega) hsh).mono ?_
            rintro e w6 ⟨rfl, hb6'⟩
            have hb6 := hb5.trans (hb6'.mono hb5.size)
            rw [← HFF.out]
            clear hb5 hE5
            go_wp2_with fail
            go_ret
            exact ⟨rfl, hb6⟩
          · have hput := lput_full w4 _ _ _ cl _ hE4 hz4 (by omega) hsh (size : Int) hR (by omega)
            rw [← HFF.out] at hfit
            have hd : decide ((F : Int) ≤ (size : Int)) = false := decide_eq_false (by omega)
            have hdn : decide (F ≤ size) = false := decide_eq_false hfit
            clear hR
            go_wp2_with fail
            refine hput.mono ?_
            rintro e w5 ⟨rfl, hb5'⟩
            have hbw5 := hbw4.trans (hb5'.mono hz4)
            have hb5 := hb3.trans (hbw5.mono hb3.size)
            have hE5 := hE.below hbw5
            have hz5 := hbw5.size
            clear hput hb5' hb4
            go_wp2_with fail
            refine (lfill_any _ _ _ _ _ _ hE5 hz5 (by omega) hsh).mono ?_
            rintro e w6 ⟨rfl, hb6'⟩
            have hb6 := hb5.trans (hb6'.mono hb5.size)
            rw [← HFF.out]
            clear hb5 hE5
            go_wp2_with fail
            go_ret
            exact ⟨rfl, hb6⟩

end Go.Proofs.Ytmljfjmceakahaa
