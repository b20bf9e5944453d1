/- awake of layer 1. -/
import Derived.Test.YthnehmfpadahiaaOctY
namespace Go.Proofs.Ythnehmfpadahiaa
open Go.RowKit
set_option linter.unusedVariables false
set_option linter.unusedSimpArgs false

theorem aw_list : (((([] : List UInt8) ++ varB 300) ++ numB 258 3) ++ varB 2) ++ [97, 98] = [130, 44, 0, 1, 2, 2, 97, 98] := by decide
theorem aw_var : varX [130, 44, 0, 1, 2, 2, 97, 98] 0 = 300 ∧ varR [130, 44, 0, 1, 2, 2, 97, 98] 0 = [0, 1, 2, 2, 97, 98] ∧ varE [130, 44, 0, 1, 2, 2, 97, 98] 0 = 0 := by decide
theorem aw_num : be (takeL [0, 1, 2, 2, 97, 98] 0 3) = 258 ∧ takeR [0, 1, 2, 2, 97, 98] 0 3 = [2, 97, 98] ∧ takeE [0, 1, 2, 2, 97, 98] 0 3 = 0 := by decide
theorem aw_bytes : rbL [2, 97, 98] 0 2 = [97, 98] ∧ rbR [2, 97, 98] 0 2 = [] ∧ rbE [2, 97, 98] 0 2 = 0 := by decide

set_option maxRecDepth 10000 in
theorem awake1 (w : World) : Calls Try.prog 23 #[] w fun e w' => e = .returned (.bool true) ∧ Below w.heap.size w w' := by
  have kc := fun (w : World) (C : Array Value) (n c : Nat) => Lib.run_convert_bytes_const (P := Try.prog) w 22 5 C n c Try.underlying22 Try.underlying5
  go_enter Try.func23, Try.ntmps23
  go_wp2_with fail
  refine (new_w w).mono ?_
  rintro e w1 ⟨rfl, hW1, hb1⟩
  obtain ⟨g, hg⟩ : ∃ g, w.heap.size = g := ⟨_, rfl⟩
  rw [hg] at hW1 hb1 ⊢
  have hB1 : g ≤ w1.heap.size := by have := hb1.size; omega
  go_wp2_with fail
  refine (var_i _ _ _ _ _ hW1 (by omega) (by omega) (by simp) hB1).mono ?_
  rintro e w2 ⟨rfl, hW2, hb2⟩
  have hB2 : g ≤ w2.heap.size := by have := hb2.size; omega
  go_wp2_with fail
  refine (num_i _ _ _ _ _ _ hW2 (by omega) (by omega) (by omega) (by omega) (by decide) hB2).mono ?_
  rintro e w3 ⟨rfl, hW3, hb3⟩
  have hB3 : g ≤ w3.heap.size := by have := hb3.size; omega
  have hs0 := Sl.lit w3 [97, 98] #[.int .u8 97, .int .u8 98] rfl 2 rfl (2, 3)
  have hav := hW3.avoid (.cells #[.int .u8 97, .int .u8 98] 5 (2, 3))
  have hb4 : Below g w3 (w3.alloc (.cells #[.int .u8 97, .int .u8 98] 5 (2, 3))) := (Below.refl _ _).alloc hB3 _
  have hW4 : IsW g (w3.alloc (.cells #[.int .u8 97, .int .u8 98] 5 (2, 3))) g _ := hW3.below ((Below.refl _ _).alloc (Nat.le_refl _) _)
  have hkeep : ∀ w' : World, w'.heap[w3.heap.size]? = (w3.alloc (.cells #[.int .u8 97, .int .u8 98] 5 (2, 3))).heap[w3.heap.size]? → Sl w' (w3.heap.size + 1) (some ⟨w3.heap.size, 0, none⟩) 2 2 [97, 98] := by
    intro w' hw
    rw [heap_alloc_new] at hw
    refine ⟨⟨by simp [bv_length], fun _ => ⟨_, rfl, by simp, fun j u hu => ?_⟩⟩, rfl, Nat.le_refl _, fun h => by cases h⟩
    rw [Addr.add_lit, Nat.zero_add, cell_of_row _ _ _ _ _ (2, 3) hw]
    simpa [bv] using hu
  have hfin : ([] ++ varB (300 : Int).toNat ++ numB (258 : Int).toNat (3 : Int).toNat).length + 2 ≤ 1099511627776 := by decide
  go_wp2_with fail
  refine (wbytes_keep _ _ _ _ _ hW4 (Nat.le_trans hB3 (by simp)) 2 2 [97, 98] hav hs0 hkeep hfin).mono ?_
  rintro e w5 ⟨rfl, hW5, hb5⟩
  have hL : ([] ++ varB (300 : Int).toNat ++ numB (258 : Int).toNat (3 : Int).toNat ++ varB 2 ++ [97, 98]) = [130, 44, 0, 1, 2, 2, 97, 98] := aw_list
  rw [hL] at hW5
  have hB5 : g ≤ w5.heap.size := by have := hb5.size; have := hb4.size; omega
  have hbw5 : Below g w w5 := (((hb1.trans hb2).trans hb3).trans hb4).trans hb5
  clear hW1 hW2 hW3 hW4 hkeep hav hs0 hfin hL hb1 hb2 hb3 hb4 hb5
  go_wp2_with fail
  refine (out_any _ _ _ _ hW5 (by decide)).mono ?_
  rintro e w6 ⟨A, n, c, rfl, hown, hb6⟩
  have hn := hown.1
  simp [bv] at hn
  subst hn
  obtain ⟨go, c', hv, hmb, hnc, hgo⟩ := MB.of_own hown (by omega)
  injection hv with hA _ hc
  subst hA hc
  have hbw6 := hbw5.trans (hb6.mono hB5)
  have hs6 := hmb.sl rfl hnc
  go_wp2_with fail
  refine (new_r _ _ _ _ _ _ hs6 (by decide)).mono ?_
  rintro e w7 ⟨gr, rfl, hR7, hg7, hb7⟩
  have hmb7 := hmb.below hb7 hmb.1
  have hgor : go < gr := Nat.lt_of_lt_of_le hmb.1 hg7
  have hbw7 := hbw6.trans (hb7.mono (hg ▸ hbw6.size))
  have hggr : g ≤ gr := by omega
  go_wp2_with fail
  refine (rvar_any _ _ _ _ hR7 (by decide)).mono ?_
  rintro e w8 ⟨x, rfl, hx, _, hR8, hA8⟩
  have hx300 := hx.out
  rw [aw_var.1] at hx300
  subst hx300
  rw [aw_var.2.1, aw_var.2.2] at hR8
  have hmb8 := hmb7.below (hA8.below (B := go + 1) (by omega) (by have := hmb7.1; omega)) (by omega)
  have hbw8 := hbw7.trans (hA8.below hggr (hg ▸ hbw7.size))
  go_wp2_with fail
  refine (rnum_i _ _ _ _ _ hR8 (by omega) (by omega)).mono ?_
  rintro e w9 ⟨y, rfl, hy, _, hR9, hA9⟩
  have hy258 : y = 258 := by rw [hy.out]; exact aw_num.1
  subst hy258
  have hR9' : IsR w9 gr [2, 97, 98] 0 := hR9
  clear hR9
  have hmb9 := hmb8.below (hA9.below (B := go + 1) (by omega) (by have := hmb8.1; omega)) (by omega)
  have hbw9 := hbw8.trans (hA9.below hggr (hg ▸ hbw8.size))
  go_wp2_with fail
  refine (rbytes_any _ _ _ _ 2 hR9' (by decide) (by decide)).mono ?_
  rintro e w10 ⟨A10, n10, c10, rfl, ho10, hR10, hA10⟩
  rw [aw_bytes.1] at ho10
  rw [aw_bytes.2.1, aw_bytes.2.2] at hR10
  have hmb10 := hmb9.below (hA10.below (B := go + 1) (by omega) (by have := hmb9.1; omega)) (by omega)
  have hbw10 := hbw9.trans (hA10.below hggr (hg ▸ hbw9.size))
  have c0 : w10.cell? ⟨go, 0, none⟩ = some (.int .u8 130) := (hmb10.2 0 130 (by rfl)).1
  have c1 : w10.cell? ⟨go, 1, none⟩ = some (.int .u8 44) := (hmb10.2 1 44 (by rfl)).1
  have c3 : w10.cell? ⟨go, 3, none⟩ = some (.int .u8 1) := (hmb10.2 3 1 (by rfl)).1
  have c4 : w10.cell? ⟨go, 4, none⟩ = some (.int .u8 2) := (hmb10.2 4 2 (by rfl)).1
  have hcv := string_of_sl (P := Try.prog) Try.underlying22 Try.underlying5 Try.underlying9 (Sl.of_own ho10)
  clear hmb hmb7 hmb8 hmb9 hmb10 hs6 hR7 hR8 hR9' hown ho10 hx hy
  go_wp2_with (first | (go_at_call 37; refine (end_any _ _ _ _ hR10).mono ?_; rintro r w' ⟨rfl, rfl⟩))
  go_ret
  rw [hg]
  exact ⟨rfl, hbw10⟩

end Go.Proofs.Ythnehmfpadahiaa
