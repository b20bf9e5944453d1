/- The reference's sum of bytes, bit by bit. -/
import Derived.Test.YtpipgeboddaipaaCrcOf
namespace Go.Proofs.Ytpipgeboddaipaa
open Go.RowKit
set_option linter.unusedVariables false
set_option linter.unusedSimpArgs false

theorem crc1_odd (x : Nat) (h : x % 2 = 1) : crc1 x = (x / 2) ^^^ 3988292384 := by unfold crc1; rw [h]
theorem crc1_evn (x : Nat) (h : x % 2 = 0) : crc1 x = x / 2 := by unfold crc1; rw [h]; simp

set_option maxRecDepth 20000 in
set_option maxHeartbeats 2000000 in
theorem refcrc_any (w : World) (l : List UInt8) (hn : l.length ≤ 140737488355328) :
    Calls Try.prog 29 #[.string ⟨l.toArray⟩] w fun e w' => e = .returned (.int .u32 (crcOf l : Nat)) ∧ w = w' := by
  obtain ⟨n, hnn⟩ : ∃ n, l.length = n := ⟨_, rfl⟩
  have hl1 : l.length ≤ n := by omega
  have hl2 : n ≤ l.length := by omega
  have HN := Lib.hid hnn
  have hn' : n ≤ 140737488355328 := by omega
  clear hnn hn
  go_enter Try.func29, Try.ntmps29
  go_wp2
  go_loop [3, 4] (fun x i => ∃ k : Nat, k ≤ n ∧ i = .int .i64 (k : Int) ∧ x = .int .u32 ((crcRun 4294967295 (l.take k) : Nat) : Int)) (fun _ i => n - (intOf i).toNat)
  case atStart => exact ⟨0, by omega, rfl, by simp [crcRun]⟩
  case round =>
    obtain ⟨k, hk, rfl, rfl⟩ := hrel
    by_cases hlt : k < n
    · have hidx : l[k]? = some l[k] := List.getElem?_eq_getElem (by omega)
      have hX := crcRun_lt (x := 4294967295) (l.take k) (by omega)
      have hsn := crcRun_snoc 4294967295 (l.take k) l[k]
      rw [← take_snoc hidx] at hsn
      obtain ⟨X, hXe⟩ : ∃ X, crcRun 4294967295 (l.take k) = X := ⟨_, rfl⟩
      rw [hXe] at hX hsn ⊢
      have hul := (l[k]).toNat_lt
      have g1 := xorc_u32 X (l[k]).toNat hX (by omega)
      have hY := xor_lt32 hX (show (l[k]).toNat < 4294967296 by omega)
      obtain ⟨Y, hYe⟩ : ∃ Y, X ^^^ (l[k]).toNat = Y := ⟨_, rfl⟩
      rw [hYe] at g1 hsn hY
      have HSN := Lib.hid hsn
      clear hsn hXe hYe hidx
      go_wp2
      go_loop [3, 5] (fun x i => ∃ b : Nat, b ≤ 8 ∧ i = .int .i64 (b : Int) ∧ x = .int .u32 ((crcN b Y : Nat) : Int)) (fun _ i => 8 - (intOf i).toNat)
      case atStart =>
        refine ⟨0, by omega, rfl, ?_⟩
        show Value.int .u32 (bits .xor .u32 (X : Int) (((l[k]).toNat : Int) % 4294967296)) = _
        rw [show (((l[k]).toNat : Int) % 4294967296) = ((l[k]).toNat : Int) by omega, g1]
        rfl
      case round =>
        obtain ⟨b, hb, rfl, rfl⟩ := hrel
        have hZ := crcN_lt b Y hY
        have hst : crcN (b + 1) Y = crc1 (crcN b Y) := rfl
        have h8 : b = 8 → crcN b Y = crc8 Y := fun h => by subst h; rfl
        obtain ⟨Z, hZe⟩ : ∃ Z, crcN b Y = Z := ⟨_, rfl⟩
        rw [hZe] at hZ hst h8 ⊢
        have HST := Lib.hid hst
        have H8 := Lib.hid h8
        clear hst h8 hZe g1
        by_cases hb8 : b < 8
        · by_cases hodd : Z % 2 = 1
          · have g2 := xorc_u32 (Z / 2) 3988292384 (by omega) (by omega)
            have d1 : ((Z / 2 : Nat) : Int) = (Z : Int) / 2 := by omega
            rw [d1, ← crc1_odd Z hodd, show ((3988292384 : Nat) : Int) = 3988292384 from rfl] at g2
            have hm : (Z : Int) % 2 = 1 := by omega
            clear d1 hodd
            go_wp2
            exact ⟨⟨b + 1, by omega, by go_num, by rw [HST.out]⟩, by simp [intOf]; omega⟩
          · have hm : (Z : Int) % 2 = 0 := by omega
            have hev := crc1_evn Z (by omega)
            have HEV := Lib.hid hev
            clear hodd hev
            go_wp2
            exact ⟨⟨b + 1, by omega, by go_num, by rw [HST.out, HEV.out]; simp⟩, by simp [intOf]; omega⟩
        · have hbe : b = 8 := by omega
          have hz8 := H8.out hbe
          clear H8 HST
          subst hbe
          go_wp2
          exact ⟨⟨k + 1, by omega, by go_num, by rw [HSN.out, hz8]⟩, by simp [intOf]; omega⟩
    · have hkn : k = n := by omega
      subst hkn
      rw [List.take_of_length_le hl1]
      have hX := crcRun_lt (x := 4294967295) l (by omega)
      have hcr : crcOf l = 4294967295 - crcRun 4294967295 l := rfl
      obtain ⟨X, hXe⟩ : ∃ X, crcRun 4294967295 l = X := ⟨_, rfl⟩
      rw [hXe] at hX hcr ⊢
      have HCR := Lib.hid hcr
      clear hcr hXe
      go_wp2
      go_ret
      refine ⟨ret_int ?_, rfl⟩
      rw [HCR.out]
      omega
end Go.Proofs.Ytpipgeboddaipaa
