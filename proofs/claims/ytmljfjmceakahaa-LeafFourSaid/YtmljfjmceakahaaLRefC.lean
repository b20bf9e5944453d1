/- rubricatorref04: Cell, Put. -/
import Derived.Test.YtmljfjmceakahaaLRefR
namespace Go.Proofs.Ytmljfjmceakahaa
open Go.RowKit
set_option linter.unusedVariables false
set_option linter.unusedSimpArgs false

theorem refnum_j (w : World) (X S : Int) (hX : 0 ≤ X) (hX' : X ≤ 18446744073709551615) (h1 : 1 ≤ S) (h8 : S ≤ 8) :
    Calls Try.prog 46 #[.int .u64 X, .int .i64 S] w fun e w' => e = .returned (.string (st (numB X.toNat S.toNat))) ∧ Below w.heap.size w w' := by
  obtain ⟨x, rfl⟩ := Int.eq_ofNat_of_zero_le hX
  obtain ⟨s, rfl⟩ := Int.eq_ofNat_of_zero_le (show 0 ≤ S by omega)
  exact refnum_any w x (by omega) s (by omega) (by omega)

set_option maxRecDepth 100000 in
set_option maxHeartbeats 1000000 in
theorem rcell_any (w : World) (e : LE) (ho : e.ok) (S : Int) (hS : S ≤ 4096) (hok : LOk e S) :
    Calls Try.prog 56 #[rVal e (st e.key) (st e.val)] w fun r w' => r = .returned (.string (st (lCell e))) ∧ Below w.heap.size w w' := by
  have hb0 : Below w.heap.size w (w.alloc (rObj e (st e.key) (st e.val))) := (Below.refl _ _).alloc (Nat.le_refl _) _
  have hq0 := heap_alloc_new w (rObj e (st e.key) (st e.val))
  obtain ⟨ok1, ok2, ok3, ok4⟩ := hok
  have hLl : lLong e ≤ 2000 := by omega
  have hof := ho.1
  obtain ⟨tk, htk⟩ : ∃ tk, st e.key = tk := ⟨_, rfl⟩
  obtain ⟨tv, htv⟩ : ∃ tv, st e.val = tv := ⟨_, rfl⟩
  rw [htk, htv] at hb0 hq0 ⊢
  obtain ⟨nk, hnk⟩ : ∃ nk, tk.size = nk := ⟨_, rfl⟩
  have hnk2 : e.key.length = nk := by rw [← hnk, ← htk, st_size]
  have hnk96 : nk ≤ 96 := by omega
  have hnw : IntKind.u64.wrap (nk : Int) = (nk : Int) := IntWalk.u64_in _ (by omega)
  have hnl := numB_length
  have q1 : ¬ 9223372036854775807 < 1 + nk := by omega
  have HTK := Lib.hid htk
  have HTV := Lib.hid htv
  have HNK := Lib.hid hnk2
  obtain ⟨C, hC⟩ : ∃ C, st (lCell e) = C := ⟨_, rfl⟩
  rw [hC]
  have HC := Lib.hid hC
  have hqs : w.heap.size < (w.alloc (rObj e tk tv)).heap.size := by simp
  clear hC htk htv hnk2
  go_enter Try.func56, Try.ntmps56
  go_wp2_with fail
  obtain ⟨q, hq⟩ : ∃ q, w.heap.size = q := ⟨_, rfl⟩
  have hbox : ∀ w', RB (w.alloc (rObj e tk tv)) w' → w'.cell? ⟨w.heap.size, 0, none⟩ = some (.string tk) ∧ w'.cell? ⟨w.heap.size, 1, none⟩ = some (.string tv) ∧ w'.cell? ⟨w.heap.size, 2, none⟩ = some (.int .i64 e.long) ∧ w'.cell? ⟨w.heap.size, 3, none⟩ = some (.int .u32 (e.first : Int)) := fun w' hw => cell4 (blk_below hq0 hw hqs)
  rw [hq] at hbox ⊢
  have HBOX := Lib.hid hbox
  generalize w.alloc (rObj e tk tv) = W at hb0 HBOX ⊢
  have hX0 : RB W W.drew := (Below.refl _ _).drew
  clear hbox hq0 hqs hq
  go_region_held3 (fun w' => w'.cell? ⟨q, 0, none⟩ = some (.string tk) ∧ w'.cell? ⟨q, 1, none⟩ = some (.string tv) ∧ w'.cell? ⟨q, 2, none⟩ = some (.int .i64 e.long) ∧ w'.cell? ⟨q, 3, none⟩ = some (.int .u32 (e.first : Int))) (exact HBOX.out _ (by assumption)) (first | (go_at_call 46; refine (refnum_j _ _ _ (by omega) (by omega) (by omega) (by omega)).mono ?_; rintro r wn ⟨rfl, hbn⟩; have hrn := RB.step (w0 := W) hbn (by assumption)))
  obtain ⟨x0, x1, x2, x3⟩ := HBOX.out _ hrn
  obtain ⟨s1, hs1⟩ : ∃ s1 : ByteArray, st (numB nk 1) ++ tk = s1 := ⟨_, rfl⟩
  rw [hs1]
  have hs1s : s1.size = 1 + nk := by rw [← hs1, ByteArray.size_append, hnk, st_size, numB_length]
  obtain ⟨z1, hz1⟩ : ∃ z1, 1 + nk = z1 := ⟨_, rfl⟩
  rw [hz1] at hs1s
  have HS1 := Lib.hid hs1
  have hz1b : z1 ≤ 97 := by omega
  clear hs1 hX0 hbn hnw q1 hnk hz1
  by_cases hf : 0 < e.first
  · rw [if_pos hf] at ok4
    obtain ⟨o1, o2, o3⟩ := ok4
    have d4 : decide ((0 : Int) < (e.first : Int)) = true := decide_eq_true (by omega)
    have HF := Lib.hid hf
    have hlw : IntKind.u64.wrap e.long = e.long := IntWalk.u64_in _ (by omega)
    have hfw : IntKind.u64.wrap (e.first : Int) = (e.first : Int) := IntWalk.u64_in _ (by omega)
    have q1 : ¬ 9223372036854775807 < z1 + 1 := by omega
    have q2 : ¬ 9223372036854775807 < z1 + 1 + 4 := by omega
    have q3 : ¬ 9223372036854775807 < z1 + 1 + 4 + 4 := by omega
    have hrd : RB W wn.drew := Below.drew hrn
    have hl0 : 0 ≤ e.long := by omega
    clear hf
    go_wp2_with fail
    clear x0 x1 x2 x3
    go_region_held3 (fun w' => w'.cell? ⟨q, 0, none⟩ = some (.string tk) ∧ w'.cell? ⟨q, 1, none⟩ = some (.string tv) ∧ w'.cell? ⟨q, 2, none⟩ = some (.int .i64 e.long) ∧ w'.cell? ⟨q, 3, none⟩ = some (.int .u32 (e.first : Int))) (exact HBOX.out _ (by assumption)) (first | (go_at_call 46; refine (refnum_j _ _ _ (by omega) (by omega) (by omega) (by omega)).mono ?_; rintro r wn ⟨rfl, hbn⟩; have hrn2 := RB.step (w0 := W) hbn (by assumption)))
    have hfin : (s1 ++ ⟨#[1]⟩ ++ st (numB e.long.toNat 4) ++ st (numB e.first 4) : ByteArray) = C := by
      rw [← HS1.out, ← HC.out, ← HTK.out, show (⟨#[1]⟩ : ByteArray) = st [1] from rfl]
      simp only [st_append]
      simp [lCell, lTail, HF.out, HNK.out]
      rfl
    go_wp2_with fail
    go_ret
    exact ⟨congrArg (fun s => Ending.returned (.string s)) hfin, hb0.trans (Below.mono hrn2 hb0.size)⟩
  · have d4 : decide ((0 : Int) < (e.first : Int)) = false := decide_eq_false (by omega)
    obtain ⟨nv, hnv⟩ : ∃ nv, tv.size = nv := ⟨_, rfl⟩
    have hnv2 : e.val.length = nv := by rw [← hnv, ← HTV.out, st_size]
    have hvl : nv ≤ 2000 := by have : lLong e = 4 + e.key.length + e.val.length := if_neg hf
                               omega
    have hvw : IntKind.u64.wrap (nv : Int) = (nv : Int) := IntWalk.u64_in _ (by omega)
    have HF := Lib.hid hf
    have HNV := Lib.hid hnv2
    have q1 : ¬ 9223372036854775807 < z1 + 1 := by omega
    have q2 : ¬ 9223372036854775807 < z1 + 1 + 2 := by omega
    have q3 : ¬ 9223372036854775807 < z1 + 1 + 2 + nv := by omega
    have hrd : RB W wn.drew := Below.drew hrn
    clear hf ok4 hnv2
    go_wp2_with fail
    clear x0 x1 x2 x3
    go_region_held3 (fun w' => w'.cell? ⟨q, 0, none⟩ = some (.string tk) ∧ w'.cell? ⟨q, 1, none⟩ = some (.string tv) ∧ w'.cell? ⟨q, 2, none⟩ = some (.int .i64 e.long) ∧ w'.cell? ⟨q, 3, none⟩ = some (.int .u32 (e.first : Int))) (exact HBOX.out _ (by assumption)) (first | (go_at_call 46; refine (refnum_j _ _ _ (by omega) (by omega) (by omega) (by omega)).mono ?_; rintro r wn ⟨rfl, hbn⟩; have hrn2 := RB.step (w0 := W) hbn (by assumption)))
    have hfin : (s1 ++ ⟨#[0]⟩ ++ st (numB nv 2) ++ tv : ByteArray) = C := by
      rw [← HS1.out, ← HC.out, ← HTK.out, ← HTV.out, show (⟨#[0]⟩ : ByteArray) = st [0] from rfl]
      simp only [st_append]
      simp [lCell, lTail, HF.out, HNK.out, HNV.out]
      rfl
    go_wp2_with fail
    go_ret
    exact ⟨congrArg (fun s => Ending.returned (.string s)) hfin, hb0.trans (Below.mono hrn2 hb0.size)⟩

end Go.Proofs.Ytmljfjmceakahaa
