/- awake of layer 3. -/
import Derived.Test.YthijobbhpbklmaaDFull
namespace Go.Proofs.Ythijobbhpbklmaa
open Go.RowKit
set_option linter.unusedVariables false
set_option linter.unusedSimpArgs false

theorem MB.fr {w w' : World} {g : Nat} {l : List UInt8} {ok : Nat → Prop} (h : MB w g l) (hF : Fr ok w w') (hg : ¬ ok g) : MB w' g l := by
  have hb := hF.2.2.2.2 g h.1 hg
  refine ⟨Nat.lt_of_lt_of_le h.1 hF.size, fun i b hi => ⟨(show w'.cell? ⟨g, i, none⟩ = w.cell? ⟨g, i, none⟩ from World.cell?_of_block hb).trans (h.2 i b hi).1, ?_⟩⟩
  have := (h.2 i b hi).2
  unfold World.frozen? at this ⊢
  rw [show w'.heap[(⟨g, i, none⟩ : Addr).block]? = w.heap[(⟨g, i, none⟩ : Addr).block]? from hb]
  exact this
theorem mixed_get (pk : UInt8) (old new : List UInt8) {i T : Nat} (hT : old.length = T * 128) (h : i < old.length) : (mixed pk old new)[i]? = some (if pickB pk i = true then new.getD i 0 else old.getD i 0) := by
  have e : i < old.length / 128 * 128 := by rw [hT, Nat.mul_div_cancel _ (by omega), ← hT]; exact h
  simp [mixed, mixTo, List.getElem?_range h, e]
/-- A block is taken out. -/
theorem DiskAt.out_ {w : World} {base p : Nat} {ok : Nat → Prop} {D : Dk} (h : DiskAt w base ok p D) (o : Obj) : DiskAt (w.alloc o) base (fun k => ok k ∧ k ≠ w.heap.size) p D :=
  h.other fun k hk ho => ⟨Below.heap_alloc w o k hk, ho, by omega⟩
def aD1 : Dk := dNew 512 4
def aD2 : Dk := aD1.count.grown 2
def aD3 : Dk := aD2.count.written 1 (fullB 512 [7])
def aD4 : Dk := aD3.count
def aD5 : Dk := aD4.crash [2]
def aD6 : Dk := aD5.count
theorem aw3 (x z : List UInt8) : lookIn ([] ++ [(1, x)]) 1 z = x := rfl
theorem aw5 (z x : List UInt8) : lookIn [] 1 ((crashed [z, z] [(1, x)] [2]).getD 1 []) = mixed 2 z x := rfl
theorem aD4_good : aD4.good = [zeros 512, zeros 512] := rfl
theorem aD4_loose : aD4.loose = [(1, fullB 512 [7])] := rfl
theorem aD3_look : aD3.look 1 = fullB 512 [7] := aw3 _ _
theorem aD5_look : aD5.look 1 = mixed 2 (zeros 512) (fullB 512 [7]) := by
  unfold aD5 Dk.crash Dk.look
  rw [aD4_good, aD4_loose]
  exact aw5 (zeros 512) (fullB 512 [7])
theorem aw_get (i : Nat) (h : i < 512) : (fullB 512 [7])[i]? = some 7 := by
  rw [fullB_one, List.getElem?_replicate, if_pos h]
theorem aw_mix (i : Nat) (h : i < 512) : (mixed 2 (zeros 512) (fullB 512 [7]))[i]? = some (if pickB 2 i = true then 7 else 0) := by
  rw [mixed_get 2 (zeros 512) _ (T := 4) (by rw [zeros_length]) (by rw [zeros_length]; exact h)]
  have e : (fullB 512 [7]).getD i 0 = 7 := by rw [List.getD, aw_get i h]; rfl
  have e2 : (zeros 512).getD i 0 = 0 := by
    unfold zeros
    rw [List.getD, List.getElem?_replicate, if_pos h]; rfl
  rw [e, e2]

set_option maxRecDepth 100000 in
set_option maxHeartbeats 1000000 in
theorem awake03 (w : World) : Calls Try.prog 14 #[] w fun e w' => e = .returned (.bool true) ∧ Below w.heap.size w w' := by
  obtain ⟨p, hp⟩ : ∃ p, w.heap.size = p := ⟨_, rfl⟩
  have hnew := dnew_is w 512 4 (by unfold NewOk; omega) p (fun k => p ≤ k) (by omega) (by show p ≤ w.heap.size; omega)
  rw [hp] at hnew ⊢
  go_enter Try.func14, Try.ntmps14
  go_wp2_with fail
  refine hnew.mono ?_
  rintro e w1 ⟨rfl, hD1, hb1⟩
  clear hnew
  have hz1 := hb1.size
  rw [hp] at hz1
  go_wp2_with fail
  have hgrow := dgrow_any (D := aD1) hD1 (fun k hk => Nat.le_trans hz1 hk) hz1 (by decide) 2 (by omega)
  refine hgrow.mono ?_
  rintro e w2 hG2
  obtain ⟨rfl, hD2, hF2⟩ : e = .returned (.int .i64 0) ∧ DiskAt w2 p (fun k => p ≤ k) p aD2 ∧ Fr (fun k => p ≤ k) w1 w2 := by
    rcases hG2 with ⟨h, _⟩ | ⟨_, h, _⟩ | ⟨_, _, h, _⟩ | ⟨_, _, _, h1, h2, h3⟩
    · exact absurd h (by decide)
    · exact absurd h (by decide)
    · exact absurd h (by decide)
    · exact ⟨h1, h2, h3⟩
  clear hG2 hgrow
  have hb2 := hb1.trans (hF2.below (by omega) (fun k hk => by show ¬ p ≤ k; omega))
  have hz2 := hF2.size
  clear hF2
  go_wp2_with fail
  have hsl := Sl.lit w2 [7] #[.int .u8 7] rfl 1 rfl (0, 0)
  have hb3 : Below p w (w2.alloc (.cells #[.int .u8 7] 5)) := hb2.alloc (by omega) _
  have hD3 := hD2.below ((Below.refl _ w2).alloc (Nat.le_refl _) (.cells #[.int .u8 7] 5))
  have hz3 : w2.heap.size + 1 ≤ (w2.alloc (.cells #[.int .u8 7] 5)).heap.size := by simp
  clear hD2 hD1
  generalize w2.alloc (.cells #[.int .u8 7] 5) = w3 at hsl hb3 hD3 hz3 ⊢
  refine (full_is w3 512 (by omega) (by omega) _ _ _ _ _ hsl (by omega) (by omega) (by omega)).mono ?_
  rintro e w4 ⟨rfl, hr4, hb4⟩
  have hD4 := hD3.below hb4
  have hz4 := hb4.size
  have hb4' := hb3.trans (hb4.mono (by omega))
  clear hsl hD3 hb4 hb3
  go_wp2_with fail
  refine (dwrite_any (D := aD2) hD4 (fun k hk => by show p ≤ k; omega) (by omega) (by decide) (by decide) 1 _ _ _ _ _ (hr4.slN (n := 512) (fullB_length _ _) (by omega)) (fun ad e => by
    injection e with e
    subst e
    exact ⟨by show w3.heap.size ≠ p; omega, hr4.lt⟩) (by omega)).mono ?_
  rintro e w5 hW5
  obtain ⟨rfl, hD5, hF5⟩ : e = .returned (.int .i64 0) ∧ DiskAt w5 p (fun k => p ≤ k) p aD3 ∧ Fr (fun k => p ≤ k) w4 w5 := by
    rcases hW5 with ⟨h, _⟩ | ⟨_, h, _⟩ | ⟨_, _, h, _⟩ | ⟨_, _, _, h1, h2, h3⟩
    · exact absurd (by decide) h
    · exact absurd (fullB_length _ _) h
    · exact absurd h (by decide)
    · exact ⟨h1, h2, h3⟩
  clear hW5 hD4 hr4
  have hb5 := hb4'.trans (hF5.below (by omega) (fun k hk => by show ¬ p ≤ k; omega))
  have hz5 := hF5.size
  clear hF5 hb4'
  go_wp2_with fail
  refine (dread_any (D := aD3) hD5 (fun k hk => by show p ≤ k; omega) (by omega) (by decide) (by decide) 1).mono ?_
  rintro e w6 hR6
  obtain ⟨g, c6, rfl, hc6, hg6, hM6, hD6, hF6⟩ : ∃ g c, e = .returned (.tuple #[.slice (some ⟨g, 0, none⟩) 512 c, .int .i64 0]) ∧ 512 ≤ c ∧ w5.heap.size ≤ g ∧ MB w6 g (fullB 512 [7]) ∧ DiskAt w6 p (fun k => p ≤ k ∧ k ≠ g) p aD4 ∧ Fr (fun k => p ≤ k) w5 w6 := by
    rcases hR6 with ⟨h, _⟩ | ⟨_, h, _⟩ | ⟨_, _, g, c, h1, h2, h3, h4, _, h5, h6⟩
    · exact absurd (by decide) h
    · exact absurd h (by decide)
    · exact ⟨g, c, h1, h2, h3, by rw [← aD3_look]; exact h4, h5, h6⟩
  clear hR6 hD5
  have hb6 := hb5.trans (hF6.below (by omega) (fun k hk => by show ¬ p ≤ k; omega))
  have hz6 := hF6.size
  have hgz := hM6.1
  clear hF6
  go_wp2_with fail
  have hsl := Sl.lit w6 [2] #[.int .u8 2] rfl 1 rfl (0, 0)
  have hb7 : Below p w (w6.alloc (.cells #[.int .u8 2] 5)) := hb6.alloc (by omega) _
  have hD7 := hD6.out_ (.cells #[.int .u8 2] 5)
  have hM7 := hM6.below ((Below.refl _ w6).alloc (Nat.le_refl _) (.cells #[.int .u8 2] 5)) hgz
  have HZ7 := Lib.hid (show (w6.alloc (.cells #[.int .u8 2] 5)).heap.size = w6.heap.size + 1 by simp)
  have hz7 : w6.heap.size + 1 ≤ (w6.alloc (.cells #[.int .u8 2] 5)).heap.size := by simp
  clear hD6 hM6
  generalize w6.alloc (.cells #[.int .u8 2] 5) = w7 at hsl hb7 hD7 hz7 HZ7 hM7 ⊢
  refine (dcrash_any (D := aD4) hD7 (fun k hk => by show (p ≤ k ∧ k ≠ g) ∧ k ≠ w6.heap.size; omega) (by omega) (by decide) _ _ _ _ (by rw [← HZ7.out] at hsl; exact hsl) (fun _ ad e => by
    injection e with e
    subst e
    exact fun h => h.2 rfl)).mono ?_
  rintro e w8 ⟨rfl, hD8, hF8⟩
  have hM8 := hM7.fr hF8 (fun h => h.1.2 rfl)
  have hb8 := hb7.trans (hF8.below (by omega) (fun k hk => by show ¬ ((p ≤ k ∧ k ≠ g) ∧ k ≠ w6.heap.size); omega))
  have hz8 := hF8.size
  clear hF8 hD7 hM7 hsl
  go_wp2_with fail
  refine (dread_any (D := aD5) hD8 (fun k hk => by show (p ≤ k ∧ k ≠ g) ∧ k ≠ w6.heap.size; omega) (by omega) (by decide) (by decide) 1).mono ?_
  rintro e w9 hR9
  obtain ⟨q, c9, rfl, hc9, hg9, hM9, hD9, hF9⟩ : ∃ g' c, e = .returned (.tuple #[.slice (some ⟨g', 0, none⟩) 512 c, .int .i64 0]) ∧ 512 ≤ c ∧ w8.heap.size ≤ g' ∧ MB w9 g' (mixed 2 (zeros 512) (fullB 512 [7])) ∧ DiskAt w9 p (fun k => ((p ≤ k ∧ k ≠ g) ∧ k ≠ w6.heap.size) ∧ k ≠ g') p aD6 ∧ Fr (fun k => (p ≤ k ∧ k ≠ g) ∧ k ≠ w6.heap.size) w8 w9 := by
    rcases hR9 with ⟨h, _⟩ | ⟨_, h, _⟩ | ⟨_, _, g, c, h1, h2, h3, h4, _, h5, h6⟩
    · exact absurd (by decide) h
    · exact absurd h (by decide)
    · exact ⟨g, c, h1, h2, h3, by rw [← aD5_look]; exact h4, h5, h6⟩
  have hM9' := hM8.fr hF9 (fun h => h.1.2 rfl)
  have hb9 := hb8.trans (hF9.below (by omega) (fun k hk => by show ¬ ((p ≤ k ∧ k ≠ g) ∧ k ≠ w6.heap.size); omega))
  have hlo := dloose_any hD9
  have hca := dcalls_any hD9
  have c511 : w9.cell? ⟨g, 511, none⟩ = some (.int .u8 7) := (hM9'.2 511 7 (aw_get 511 (by omega))).1
  have c127 : w9.cell? ⟨q, 127, none⟩ = some (.int .u8 0) := (hM9.2 127 0 ((aw_mix 127 (by omega)).trans (by decide))).1
  have c128 : w9.cell? ⟨q, 128, none⟩ = some (.int .u8 7) := (hM9.2 128 7 ((aw_mix 128 (by omega)).trans (by decide))).1
  have c255 : w9.cell? ⟨q, 255, none⟩ = some (.int .u8 7) := (hM9.2 255 7 ((aw_mix 255 (by omega)).trans (by decide))).1
  have c256 : w9.cell? ⟨q, 256, none⟩ = some (.int .u8 0) := (hM9.2 256 0 ((aw_mix 256 (by omega)).trans (by decide))).1
  have hlo : Calls Try.prog 26 #[.pointer (some ⟨p, 0, none⟩)] w9 fun e w' => e = .returned (.int .i64 0) ∧ w9 = w' := hlo
  have hca : Calls Try.prog 20 #[.pointer (some ⟨p, 0, none⟩)] w9 fun e w' => e = .returned (.int .i64 4) ∧ w9 = w' := hca
  clear hR9 hD8 hM8 hM9 hM9' hD9 hF9 hb8 hb7 hb6 hb5 hb2 hb1
  go_wp2_with (first | (go_at_call 26; refine hlo.mono ?_; rintro e w' ⟨rfl, rfl⟩) | (go_at_call 20; refine hca.mono ?_; rintro e w' ⟨rfl, rfl⟩))
  go_ret
  exact ⟨rfl, hb9⟩
end Go.Proofs.Ythijobbhpbklmaa
