/- Package meta: Put. -/
import Derived.Test.YtpipgeboddaipaaMetaR
import Derived.Test.YtpipgeboddaipaaCrcRef
import Derived.Lib.SlBytesConst
namespace Go.Proofs.Ytpipgeboddaipaa
open Go.RowKit
set_option linter.unusedVariables false
set_option linter.unusedSimpArgs false

/-- A page's beginning. -/
def mhead (t size : Nat) : List UInt8 := [82, 85, 66, 49] ++ numB size 4 ++ numB t 8
def pgs (e m f k : Nat) : List UInt8 := match k with
  | 0 => []
  | 1 => numB e 4
  | 2 => numB e 4 ++ numB m 4
  | _ => numB e 4 ++ numB m 4 ++ numB f 4
def msum (t e m f size : Nat) : List UInt8 := mhead t size ++ pgs e m f 3
def mPut (t e m f size : Nat) : List UInt8 := msum t e m f size ++ numB (crcOf (msum t e m f size)) 4 ++ List.replicate (size - 32) 0
theorem msum_length (t e m f size : Nat) : (msum t e m f size).length = 28 := by simp [msum, mhead, pgs, numB_length]
theorem mPut_length (t e m f size : Nat) (h : 32 ≤ size) : (mPut t e m f size).length = size := by
  simp [mPut, msum_length, numB_length]; omega
theorem mPut_splice (t e m f size : Nat) (h : 32 ≤ size) :
    splice (List.replicate size (0 : UInt8)) 0 ((msum t e m f size ++ numB (crcOf (msum t e m f size)) 4).take (min (msum t e m f size ++ numB (crcOf (msum t e m f size)) 4).length size)) = mPut t e m f size := by
  rw [List.take_of_length_le (by simp [numB_length, msum_length]; omega)]
  simp [splice, mPut, numB_length, msum_length]

set_option maxRecDepth 20000 in
set_option maxHeartbeats 2000000 in
theorem mput_ok (w : World) (t e m f size : Nat) (ht : t < 18446744073709551616) (he : e < 4294967296) (hm : m < 4294967296) (hf : f < 4294967296) (hR : MRight t e m f) (h1 : 512 ≤ size) (h2 : size ≤ 4096) :
    Calls Try.prog 12 #[.agg #[.int .u64 (t : Int), .int .u32 (e : Int), .int .u32 (m : Int), .int .u32 (f : Int)], .int .i64 (size : Int)] w fun r w' => ∃ g, r = .returned (.tuple #[.slice (some ⟨g, 0, none⟩) size size, .int .i64 0]) ∧ w.heap.size ≤ g ∧ RowB w' g (mPut t e m f size) ∧ Below w.heap.size w w' := by
  obtain ⟨ii, hi0, hz0, hz1, hz2⟩ := info_parts info_u8
  have hinfo : (Try.prog.info? 5).map (·.size) = some 1 := by rw [hi0]; simp [hz1]
  have kc := fun (w : World) (C : Array Value) (n c : Nat) => Lib.run_convert_bytes_const (P := Try.prog) w 33 5 C n c Try.underlying33 Try.underlying5
  have hright := right_any (w.alloc (.cells #[.int .u64 (t : Int), .int .u32 (e : Int), .int .u32 (m : Int), .int .u32 (f : Int)] 29)) t e m f ht he hm hf
  rw [decide_eq_true hR] at hright
  have hb0 : Below w.heap.size w (w.alloc (.cells #[.int .u64 (t : Int), .int .u32 (e : Int), .int .u32 (m : Int), .int .u32 (f : Int)] 29)) := (Below.refl _ _).alloc (Nat.le_refl _) _
  have hx0 := heap_alloc_new w (.cells #[.int .u64 (t : Int), .int .u32 (e : Int), .int .u32 (m : Int), .int .u32 (f : Int)] 29)
  have HX0 := Lib.hid hx0
  clear hx0
  go_enter Try.func12, Try.ntmps12
  go_wp2_with (first | (go_at_call 14; refine hright.mono ?_; rintro r w1 ⟨rfl, hb1'⟩))
  have hb1 := hb0.trans (hb1'.mono hb0.size)
  have hx1 := blk_below HX0.out hb1' (blk_lt HX0.out)
  refine (new_w w1).mono ?_
  rintro r w2 ⟨rfl, hW2, hb2'⟩
  obtain ⟨g, hg⟩ : ∃ g, w1.heap.size = g := ⟨_, rfl⟩
  have hwg : w.heap.size ≤ g := by rw [← hg]; exact hb1.size
  have hxlt := blk_lt hx1
  rw [hg] at hW2 hb2' hxlt ⊢
  have hb2 := hb1.trans (hb2'.mono hwg)
  have hx2 := blk_below hx1 hb2' hxlt
  have hg2 : g ≤ w2.heap.size := by have := hb2'.size; omega
  have hs0 := Sl.lit w2 [82, 85, 66, 49] #[.int .u8 82, .int .u8 85, .int .u8 66, .int .u8 49] rfl 4 rfl (4, 5)
  clear hright HX0 hx1 hb1' hb2'
  go_wp2_with fail
  refine (raw_any _ _ _ _ (hW2.below ((Below.refl _ _).alloc (Nat.le_refl _) _)) (Nat.le_trans hg2 (by simp)) _ _ _ _ _ hs0 (by simp)).mono ?_
  rintro r w3 ⟨rfl, hW3, hb3'⟩
  have hb23 : Below g w2 w3 := ((Below.refl _ _).alloc hg2 _).trans hb3'
  have hb3 := hb2.trans (hb23.mono hwg)
  have hx3 := blk_below hx2 hb23 hxlt
  have hg3 : g ≤ w3.heap.size := Nat.le_trans hg2 hb23.size
  have hsw : IntKind.u64.wrap (size : Int) = (size : Int) := IntWalk.u64_in _ (by omega)
  clear hs0 hx2 hW2 hb3' hb23
  go_wp2_with fail
  refine (num_i _ _ _ _ _ _ hW3 (by omega) (by omega) (by omega) (by omega) (by simp) hg3).mono ?_
  rintro r w4 ⟨rfl, hW4, hb4'⟩
  have hb4 := hb3.trans (hb4'.mono hwg)
  have hx4 := blk_below hx3 hb4' hxlt
  have hg4 : g ≤ w4.heap.size := Nat.le_trans hg3 hb4'.size
  have c0 := blk_cell hx4 0
  clear hx3 hW3 hb4'
  go_wp2_with fail
  refine (num_i _ _ _ _ _ _ hW4 (by omega) (by omega) (by omega) (by omega) (by simp [numB_length]) hg4).mono ?_
  rintro r w5 ⟨rfl, hW5, hb5'⟩
  have hb5 := hb4.trans (hb5'.mono hwg)
  have hx5 := blk_below hx4 hb5' hxlt
  have hg5 : g ≤ w5.heap.size := Nat.le_trans hg4 hb5'.size
  have c1 := blk_cell hx5 1
  have c2 := blk_cell hx5 2
  have c3 := blk_cell hx5 3
  clear hx4 hx5 hW4 hb5' c0
  have i0 : ∀ w, (Instr.index 63 (.agg #[.int .u32 (e : Int), .int .u32 (m : Int), .int .u32 (f : Int)]) (.int .i64 0)).run Try.prog w = .ok (.int .u32 (e : Int)) w := fun _ => by kernel_rfl
  have i1 : ∀ w, (Instr.index 63 (.agg #[.int .u32 (e : Int), .int .u32 (m : Int), .int .u32 (f : Int)]) (.int .i64 1)).run Try.prog w = .ok (.int .u32 (m : Int)) w := fun _ => by kernel_rfl
  have i2 : ∀ w, (Instr.index 63 (.agg #[.int .u32 (e : Int), .int .u32 (m : Int), .int .u32 (f : Int)]) (.int .i64 2)).run Try.prog w = .ok (.int .u32 (f : Int)) w := fun _ => by kernel_rfl
  have hW5' : IsW g w5 g (mhead t size ++ pgs e m f 0) := by simpa [mhead, pgs] using hW5
  clear hW5
  go_wp2_with fail
  go_loopw [41] (fun i wr => ∃ k : Nat, k ≤ 3 ∧ i = .int .i64 (k : Int) ∧ IsW g wr g (mhead t size ++ pgs e m f k) ∧ g ≤ wr.heap.size ∧ Below w.heap.size w wr) (fun i _ => 3 - (intOf i).toNat)
  case atStart => exact ⟨0, by omega, rfl, hW5', hg5, hb5⟩
  case round =>
    clear hW5' hb5
    obtain ⟨k, hk, rfl, hW, hgw, hbw⟩ := hrel
    have hk3 : k = 0 ∨ k = 1 ∨ k = 2 ∨ k = 3 := by omega
    rcases hk3 with rfl | rfl | rfl | rfl
    · go_wp2_with fail
      refine (num_i _ _ _ _ _ _ hW (by omega) (by omega) (by omega) (by omega) (by simp [numB_length, mhead, pgs]) hgw).mono ?_
      rintro r w9 ⟨rfl, hW9, hb9⟩
      go_wp2_with fail
      go_roundw
      case rel => exact ⟨1, by omega, rfl, by simpa [pgs] using hW9, Nat.le_trans hgw hb9.size, hbw.trans (hb9.mono hwg)⟩
      case measure => simp [intOf]
    · go_wp2_with fail
      refine (num_i _ _ _ _ _ _ hW (by omega) (by omega) (by omega) (by omega) (by simp [numB_length, mhead, pgs]) hgw).mono ?_
      rintro r w9 ⟨rfl, hW9, hb9⟩
      go_wp2_with fail
      go_roundw
      case rel => exact ⟨2, by omega, rfl, by simpa [pgs] using hW9, Nat.le_trans hgw hb9.size, hbw.trans (hb9.mono hwg)⟩
      case measure => simp [intOf]
    · go_wp2_with fail
      refine (num_i _ _ _ _ _ _ hW (by omega) (by omega) (by omega) (by omega) (by simp [numB_length, mhead, pgs]) hgw).mono ?_
      rintro r w9 ⟨rfl, hW9, hb9⟩
      go_wp2_with fail
      go_roundw
      case rel => exact ⟨3, by omega, rfl, by simpa [pgs] using hW9, Nat.le_trans hgw hb9.size, hbw.trans (hb9.mono hwg)⟩
      case measure => simp [intOf]
    · clear i0 i1 i2 c1 c2 c3 hk
      have hWs : IsW g wr g (msum t e m f size) := hW
      have hsl : (msum t e m f size).length = 28 := msum_length t e m f size
      have hpl := fun (x : Nat) => numB_length x 4
      obtain ⟨H, hH⟩ : ∃ H, msum t e m f size = H := ⟨_, rfl⟩
      have hsp := mPut_splice t e m f size (by omega)
      rw [hH] at hWs hsl hsp
      have HSP := Lib.hid hsp
      have HSL := Lib.hid hsl
      have hHl : H.length ≤ 28 := by omega
      clear hsp hsl hW hH
      go_wp2_with fail
      refine (out_any _ _ _ _ hWs (by omega)).mono ?_
      rintro r w6 ⟨A6, n6, c6, rfl, ho6, hb6'⟩
      have hb6 := hbw.trans (hb6'.mono hbw.size)
      have hW6 := hWs.below hb6'
      have hg6 : g ≤ w6.heap.size := Nat.le_trans hgw hb6'.size
      have hs6 := Sl.of_own ho6
      have hn6 : n6 ≤ 28 := by have := hs6.len; omega
      clear hWs ho6 hb6'
      go_wp2_with fail
      refine (crcof_any _ w6.heap.size _ A6 n6 c6 H (blk_cell (heap_alloc_new w6 (.cells #[.slice A6 n6 c6] 33)) 0) (hs6.belowX ((Below.refl _ _).alloc (Nat.le_refl _) _)) (by omega)).mono ?_
      rintro r w7 ⟨rfl, hb7'⟩
      have hb67 : Below w6.heap.size w6 w7 := ((Below.refl _ _).alloc (Nat.le_refl _) _).trans (hb7'.mono (by simp))
      have hb7 := hb6.trans (hb67.mono hb6.size)
      have hW7 := hW6.below hb67
      have hg7 : g ≤ w7.heap.size := Nat.le_trans hg6 hb67.size
      have hcl := crcOf_lt H
      obtain ⟨X, hX⟩ : ∃ X, crcOf H = X := ⟨_, rfl⟩
      rw [hX] at hcl ⊢
      have HXC := Lib.hid hX
      have hxw : IntKind.u64.wrap (X : Int) = (X : Int) := IntWalk.u64_in _ (by omega)
      clear hW6 hb67 hb7' hX hs6
      go_wp2_with fail
      refine (num_i _ _ _ _ _ _ hW7 (by omega) (by omega) (by omega) (by omega) (by omega) hg7).mono ?_
      rintro r w8 ⟨rfl, hW8, hb8'⟩
      have hb8 := hb7.trans (hb8'.mono hwg)
      have hg8 : g ≤ w8.heap.size := Nat.le_trans hg7 hb8'.size
      have hl8 : (H ++ numB (X : Int).toNat (4 : Int).toNat).length ≤ 32 := by have := HSL.out; simp [numB_length]; omega
      have hs0 : (0 : Int) ≤ (size : Int) := by omega
      clear hW7 hb8'
      go_wp2_with (first
        | (at_make; refine wpList_make_bytes _ rfl _ _ _ rfl Try.underlying33 info_u8 _ _ _ rfl rfl (by omega) (by omega) ?_; intro w9 hr9 hb9')
        | (go_at_call 27; refine (out_any _ _ _ _ (hW8.below hb9') (by omega)).mono ?_; rintro r w10 ⟨A10, n10, c10, rfl, hown10, hb10'⟩; have hr10 := hr9.below hb10' hr9.lt)
        | (refine wpList_copy_bytes rfl (.tmp 58) (.tmp 60) 33 33 rfl Try.underlying33 hinfo _ _ _ _ _ _ rfl rfl w8.heap.size 0 _ hr10 _ _ (Sl.of_own hown10) (fun _ => rfl) (by simp; omega) ?_; intro w11 hr11 ha11))
      go_ret2
      have hz8 : w.heap.size ≤ w8.heap.size := hb8.size
      have hz9 := hb9'.size
      have hz10 := hb10'.size
      have hn10 := (Sl.of_own hown10).len
      subst hn10
      refine ⟨_, rfl, hz8, ?_, ((hb8.trans (hb9'.mono hz8)).trans (hb10'.mono (by omega))).trans (ha11.below hz8 (by omega))⟩
      have hsp := HSP.out
      rw [HXC.out] at hsp
      simp only [Int.toNat_natCast] at hr11
      rw [← hsp]
      exact hr11
end Go.Proofs.Ytpipgeboddaipaa
