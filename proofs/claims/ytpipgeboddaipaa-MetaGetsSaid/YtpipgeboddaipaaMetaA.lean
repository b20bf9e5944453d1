/- Layer 7's statements: awake, of. -/
import Derived.Test.YtpipgeboddaipaaMetaO
namespace Go.Proofs.Ytpipgeboddaipaa
open Go.RowKit
set_option linter.unusedVariables false
set_option linter.unusedSimpArgs false

theorem mStep_put (i t e m f size : Nat) (o : M4) (ht : t < 18446744073709551616) (he : e < 4294967296) (hm : m < 4294967296) (hf : f < 4294967296) (hR : MRight t e m f) (h1 : 512 ≤ size) (h2 : size ≤ 4096) :
    mStep i (mPut t e m f size) o = if t % 2 = i ∧ o.1 < t then (t, e, m, f) else o := by
  unfold mStep
  rw [mGet_put t e m f size ht he hm hf hR h1 h2]
  simp

theorem awake7 (w : World) : Calls Try.prog 10 #[] w fun e w' => e = .returned (.bool true) ∧ Below w.heap.size w w' := by
  obtain ⟨ii, hi0, hz0, hz1, hz2⟩ := info_parts info_u8
  have hp1 : Calls Try.prog 12 #[.agg #[.int .u64 4, .int .u32 9, .int .u32 3, .int .u32 0], .int .i64 512] w fun r w' => ∃ g, r = .returned (.tuple #[.slice (some ⟨g, 0, none⟩) 512 512, .int .i64 0]) ∧ w.heap.size ≤ g ∧ RowB w' g (mPut 4 9 3 0 512) ∧ Below w.heap.size w w' :=
    mput_ok w 4 9 3 0 512 (by omega) (by omega) (by omega) (by omega) (by decide) (by omega) (by omega)
  have hp2 : ∀ w, Calls Try.prog 12 #[.agg #[.int .u64 5, .int .u32 10, .int .u32 4, .int .u32 5], .int .i64 512] w fun r w' => ∃ g, r = .returned (.tuple #[.slice (some ⟨g, 0, none⟩) 512 512, .int .i64 0]) ∧ w.heap.size ≤ g ∧ RowB w' g (mPut 5 10 4 5 512) ∧ Below w.heap.size w w' :=
    fun w => mput_ok w 5 10 4 5 512 (by omega) (by omega) (by omega) (by omega) (by decide) (by omega) (by omega)
  have HP2 := Lib.hid hp2
  have l1 := mPut_length 4 9 3 0 512 (by omega)
  have l2 := mPut_length 5 10 4 5 512 (by omega)
  have b6 : (mPut 4 9 3 0 512)[6]? = some 2 := by rw [mPut_eq]; rfl
  have b15 : (mPut 4 9 3 0 512)[15]? = some 4 := by rw [mPut_eq]; rfl
  have b4 : (mPut 4 9 3 0 512).take 4 = [82, 85, 66, 49] := by rw [mPut_eq]; rfl
  have k1 : mChosen (mPut 4 9 3 0 512) (mPut 5 10 4 5 512) = (5, 10, 4, 5) := by
    unfold mChosen
    rw [mStep_put 0 4 9 3 0 512 _ (by omega) (by omega) (by omega) (by omega) (by decide) (by omega) (by omega), mStep_put 1 5 10 4 5 512 _ (by omega) (by omega) (by omega) (by omega) (by decide) (by omega) (by omega)]
    rfl
  have k2 : mChosen (mPut 4 9 3 0 512) (mPut 4 9 3 0 512) = (4, 9, 3, 0) := by
    unfold mChosen
    rw [mStep_put 0 4 9 3 0 512 _ (by omega) (by omega) (by omega) (by omega) (by decide) (by omega) (by omega), mStep_put 1 4 9 3 0 512 _ (by omega) (by omega) (by omega) (by omega) (by decide) (by omega) (by omega)]
    rfl
  generalize mPut 4 9 3 0 512 = P1 at *
  generalize mPut 5 10 4 5 512 = P2 at *
  have L1 := Lib.hid l1
  have L2 := Lib.hid l2
  have B6 := Lib.hid b6
  have B15 := Lib.hid b15
  have B4 := Lib.hid b4
  have K1 := Lib.hid k1
  have K2 := Lib.hid k2
  clear l1 l2 b6 b15 b4 k1 k2 hp2
  go_enter Try.func10, Try.ntmps10
  go_wp2_with fail
  refine hp1.mono ?_
  rintro r w1 ⟨g1, rfl, hg1, hr1, hb1⟩
  clear hp1
  go_wp2_with fail
  refine (HP2.out w1).mono ?_
  rintro r w2 ⟨g2, rfl, hg2, hr2, hb2'⟩
  have hb2 := hb1.trans (hb2'.mono hb1.size)
  have hr12 := hr1.below hb2' hr1.lt
  have s1 := hr12.slN (n := 512) L1.out (by omega)
  have s2 := hr2.slN (n := 512) L2.out (by omega)
  clear hr1 hb1 hb2' HP2
  go_wp2_with fail
  refine (mchoose_any w2 _ _ _ P1 _ _ _ P2 s1 s2 (by omega) (by omega)).mono ?_
  rintro r w3 ⟨rfl, hb3'⟩
  rw [K1.out]
  have hb3 := hb2.trans (hb3'.mono hb2.size)
  have hr13 := hr12.below hb3' hr12.lt
  simp only [mCells]
  clear hr12 hr2 hb2 hb3' s1 s2
  have hq3 := heap_alloc_new w3 (.cells #[.int .u64 5, .int .u32 10, .int .u32 4, .int .u32 5] 29)
  have hb4 := hb3.alloc hb3.size (.cells #[.int .u64 5, .int .u32 10, .int .u32 4, .int .u32 5] 29)
  have hr14 := blk_alloc hr13 (.cells #[.int .u64 5, .int .u32 10, .int .u32 4, .int .u32 5] 29)
  have hlt3 := hr13.lt
  go_wp2_with fail
  generalize w3.alloc (.cells #[.int .u64 5, .int .u32 10, .int .u32 4, .int .u32 5] 29) = W4 at hb4 hq3 hr14 ⊢
  generalize w3.heap.size = q3 at hq3 hlt3 ⊢
  have hr14' : RowB W4 g1 P1 := hr14
  have s1 := hr14'.slN (n := 512) L1.out (by omega)
  clear hr14 hr13 hb3
  refine (mchoose_any W4 _ _ _ P1 _ _ _ P1 s1 s1 (by omega) (by omega)).mono ?_
  rintro r w5 ⟨rfl, hb5'⟩
  rw [K2.out]
  have hb5 := hb4.trans (hb5'.mono hb4.size)
  have hr15 : RowB w5 g1 P1 := hr14'.below hb5' hr14'.lt
  have hq5 := blk_below hq3 hb5' (blk_lt hq3)
  simp only [mCells]
  have s5 := hr15.slN (n := 512) L1.out (by omega)
  have hb6 := hb5.alloc hb5.size (.cells #[.int .u64 4, .int .u32 9, .int .u32 3, .int .u32 0] 29)
  have hq6 := blk_alloc hq5 (.cells #[.int .u64 4, .int .u32 9, .int .u32 3, .int .u32 0] 29)
  have hr16 : RowB (w5.alloc (.cells #[.int .u64 4, .int .u32 9, .int .u32 3, .int .u32 0] 29)) g1 P1 := blk_alloc hr15 _
  have hp6 := heap_alloc_new w5 (.cells #[.int .u64 4, .int .u32 9, .int .u32 3, .int .u32 0] 29)
  obtain ⟨A4, hcut, hsl⟩ := cut_h (P := Try.prog) 33 5 .i64 Try.underlying33 hi0 hz1 (some ⟨g1, 0, none⟩) 512 512 4 (by omega)
  have hs6 := hsl _ _ P1 (by omega) (hr16.slN (n := 512) L1.out (by omega))
  rw [B4.out] at hs6
  have hcv := string_of_sl (P := Try.prog) Try.underlying33 Try.underlying5 Try.underlying9 hs6
  have hcut' : ∀ W : World, (Instr.slice 33 (.slice (some ⟨g1, 0, none⟩) 512 512) none (some (.int .i64 4)) none).run Try.prog W = .ok (.slice A4 4 512) W := hcut
  have c6 := hr16.cell B6.out
  have c15 := hr16.cell B15.out
  have q0 := blk_cell hq6 0
  have q3' := blk_cell hq6 3
  have p0 := blk_cell hp6 0
  clear hcut hsl hs6 hr16 hq6 hp6 hb5 hr15 hq5 s5 hb5' hb4 hq3 hr14' s1 hlt3
  go_wp2_with (first | (go_at_call 16; refine (slot_any _ 5 (by omega)).mono ?_; rintro r w' ⟨rfl, rfl⟩))
  go_ret
  exact ⟨rfl, hb6⟩
theorem mchoose_is (w : World) (A : Option Addr) (n c : Nat) (a : List UInt8) (A' : Option Addr) (n' c' : Nat) (b : List UInt8) (t e m f : Nat) (ha : Sl w w.heap.size A n c a) (hb : Sl w w.heap.size A' n' c' b) (hn : n ≤ 140737488355328) (hn' : n' ≤ 140737488355328)
    (h : Hid (mChosen a b = (t, e, m, f))) (ht : Hid (¬ t = 0)) :
    Calls Try.prog 21 #[.slice A n c, .slice A' n' c'] w fun r w' => r = .returned (.tuple #[.agg #[.int .u64 (t : Int), .int .u32 (e : Int), .int .u32 (m : Int), .int .u32 (f : Int)], .int .i64 0]) ∧ Below w.heap.size w w' := by
  have hc := mchoose_any w A n c a A' n' c' b ha hb hn hn'
  rw [h.out] at hc
  have : (if (t, e, m, f).1 = 0 then (24 : Int) else 0) = 0 := if_neg ht.out
  rw [this] at hc
  exact hc
theorem mchoose_none (w : World) (A : Option Addr) (n c : Nat) (a : List UInt8) (A' : Option Addr) (n' c' : Nat) (b : List UInt8) (ha : Sl w w.heap.size A n c a) (hb : Sl w w.heap.size A' n' c' b) (hn : n ≤ 140737488355328) (hn' : n' ≤ 140737488355328)
    (h : Hid (mChosen a b = (0, 0, 0, 0))) :
    Calls Try.prog 21 #[.slice A n c, .slice A' n' c'] w fun r w' => r = .returned (.tuple #[.agg #[.int .u64 0, .int .u32 0, .int .u32 0, .int .u32 0], .int .i64 24]) ∧ Below w.heap.size w w' := by
  have hc := mchoose_any w A n c a A' n' c' b ha hb hn hn'
  rw [h.out] at hc
  exact hc

end Go.Proofs.Ytpipgeboddaipaa
