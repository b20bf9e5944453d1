/- Layer 7's statement: MetaSector. -/
import Derived.Test.YtpipgeboddaipaaLawMetaNewer
namespace Go.Proofs.Ytpipgeboddaipaa
open Go.RowKit
set_option linter.unusedVariables false
set_option linter.unusedSimpArgs false


theorem mPut_drop (t e m f size k : Nat) (hk : 32 ≤ k) (h : k ≤ size) : (mPut t e m f size).drop k = List.replicate (size - k) 0 := by
  have : mPut t e m f size = (msum t e m f size ++ numB (crcOf (msum t e m f size)) 4) ++ List.replicate (size - 32) 0 := by simp [mPut]
  rw [this, List.drop_append, List.drop_of_length_le (by simp [msum_length, numB_length]; omega), List.nil_append, List.drop_replicate]
  congr 1
  simp [msum_length, numB_length]
  omega
theorem mPut_nought (t e m f size k : Nat) (hk : 32 ≤ k) (h : k < size) : (mPut t e m f size)[k]? = some 0 := by
  have h1 := mPut_drop t e m f size k hk (by omega)
  have h2 : ((mPut t e m f size).drop k)[0]? = some 0 := by
    rw [h1]
    simp [List.getElem?_replicate]
    omega
  simpa using h2
theorem mget_is (w : World) (B : Nat) (A : Option Addr) (n c : Nat) (l : List UInt8) (t e m f : Nat) (h : Sl w B A n c l) (hn : n ≤ 140737488355328) (hg : Hid (mGet l = (some (t, e, m, f), 0))) :
    Calls Try.prog 17 #[.slice A n c] w fun r w' => r = .returned (.tuple #[.agg #[.int .u64 (t : Int), .int .u32 (e : Int), .int .u32 (m : Int), .int .u32 (f : Int)], .int .i64 0]) ∧ Below w.heap.size w w' := by
  have := mget_any w B A n c l h hn
  rw [hg.out] at this
  exact this

set_option maxRecDepth 20000 in
set_option maxHeartbeats 2000000 in
theorem sector_no0 (w : World) (t0 e0 m0 f0 t1 e1 m1 f1 : Nat) (ht0 : t0 < 18446744073709551616) (he0 : e0 < 4294967296) (hm0 : m0 < 4294967296) (hf0 : f0 < 4294967296) (ht1 : t1 < 18446744073709551616) (he1 : e1 < 4294967296) (hm1 : m1 < 4294967296) (hf1 : f1 < 4294967296) (S : Int) (hno : ¬ (MRight t0 e0 m0 f0 ∧ 512 ≤ S ∧ S ≤ 4096)) :
    Calls Try.prog 7 #[.agg #[.int .u64 (t0 : Int), .int .u32 (e0 : Int), .int .u32 (m0 : Int), .int .u32 (f0 : Int)], .agg #[.int .u64 (t1 : Int), .int .u32 (e1 : Int), .int .u32 (m1 : Int), .int .u32 (f1 : Int)], .int .i64 S] w fun r w' => r = .returned (.bool true) ∧ Below w.heap.size w w' := by
  have HNO := Lib.hid hno
  clear hno
  have hx0 := blk_alloc (heap_alloc_new w (.cells #[.int .u64 (t0 : Int), .int .u32 (e0 : Int), .int .u32 (m0 : Int), .int .u32 (f0 : Int)] 25)) (.cells #[.int .u64 (t1 : Int), .int .u32 (e1 : Int), .int .u32 (m1 : Int), .int .u32 (f1 : Int)] 25)
  have hx1 := heap_alloc_new (w.alloc (.cells #[.int .u64 (t0 : Int), .int .u32 (e0 : Int), .int .u32 (m0 : Int), .int .u32 (f0 : Int)] 25)) (.cells #[.int .u64 (t1 : Int), .int .u32 (e1 : Int), .int .u32 (m1 : Int), .int .u32 (f1 : Int)] 25)
  have hb0 : Below w.heap.size w ((w.alloc (.cells #[.int .u64 (t0 : Int), .int .u32 (e0 : Int), .int .u32 (m0 : Int), .int .u32 (f0 : Int)] 25)).alloc (.cells #[.int .u64 (t1 : Int), .int .u32 (e1 : Int), .int .u32 (m1 : Int), .int .u32 (f1 : Int)] 25)) := ((Below.refl _ _).alloc (Nat.le_refl _) _).alloc (by simp) _
  rw [World.size_alloc] at hx1
  have HX0 := Lib.hid hx0
  have HX1 := Lib.hid hx1
  clear hx0 hx1
  go_enter Try.func7, Try.ntmps7
  go_wp2_with fail
  refine (awake7 _).mono ?_
  rintro r w1 ⟨rfl, hb1'⟩
  have hb1 := hb0.trans (hb1'.mono hb0.size)
  have hx0 := blk_below HX0.out hb1' (blk_lt HX0.out)
  have hx1 := blk_below HX1.out hb1' (blk_lt HX1.out)
  obtain ⟨⟨x00, x01, x02, x03⟩, _⟩ := cell4 hx0
  clear hb0 hb1' HX0 HX1
  go_wp2_with fail
  refine (of_any _ t0 e0 m0 f0).mono ?_
  rintro r w2 ⟨rfl, hb2'⟩
  have hb2 := hb1.trans (hb2'.mono hb1.size)
  have hx1 := blk_below hx1 hb2' (blk_lt hx1)
  have hg0 := blk_alloc (heap_alloc_new w2 (.cells #[.int .u64 (t0 : Int), .int .u32 (e0 : Int), .int .u32 (m0 : Int), .int .u32 (f0 : Int)] 29)) (.cells #[.int .u64 (t0 : Int), .int .u32 (e0 : Int), .int .u32 (m0 : Int), .int .u32 (f0 : Int)] 30)
  have hgw0 : w.heap.size ≤ w2.heap.size := hb2.size
  have hb3 := (hb2.alloc hb2.size (.cells #[.int .u64 (t0 : Int), .int .u32 (e0 : Int), .int .u32 (m0 : Int), .int .u32 (f0 : Int)] 29)).alloc (by have := hb2.size; simp; omega) (.cells #[.int .u64 (t0 : Int), .int .u32 (e0 : Int), .int .u32 (m0 : Int), .int .u32 (f0 : Int)] 30)
  have hx1' := blk_alloc (blk_alloc hx1 (.cells #[.int .u64 (t0 : Int), .int .u32 (e0 : Int), .int .u32 (m0 : Int), .int .u32 (f0 : Int)] 29)) (.cells #[.int .u64 (t0 : Int), .int .u32 (e0 : Int), .int .u32 (m0 : Int), .int .u32 (f0 : Int)] 30)
  obtain ⟨⟨x10, x11, x12, x13⟩, _⟩ := cell4 hx1'
  clear hb1 hb2' x00 x01 x02 x03 hx0 hx1 hb2
  go_wp2_with fail
  generalize (w2.alloc (.cells #[.int .u64 (t0 : Int), .int .u32 (e0 : Int), .int .u32 (m0 : Int), .int .u32 (f0 : Int)] 29)).alloc (.cells #[.int .u64 (t0 : Int), .int .u32 (e0 : Int), .int .u32 (m0 : Int), .int .u32 (f0 : Int)] 30) = w3 at *
  generalize w2.heap.size = g0 at *
  refine (of_any _ t1 e1 m1 f1).mono ?_
  rintro r w4 ⟨rfl, hb4'⟩
  have hb4 := hb3.trans (hb4'.mono hb3.size)
  have hg0 := blk_below hg0 hb4' (blk_lt hg0)
  have hne : g0 ≠ w4.heap.size := by have := blk_lt hg0; omega
  have hg0 := blk_alloc (blk_alloc hg0 (.cells #[.int .u64 (t1 : Int), .int .u32 (e1 : Int), .int .u32 (m1 : Int), .int .u32 (f1 : Int)] 29)) (.cells #[.int .u64 (t1 : Int), .int .u32 (e1 : Int), .int .u32 (m1 : Int), .int .u32 (f1 : Int)] 30)
  have hg1 := blk_alloc (heap_alloc_new w4 (.cells #[.int .u64 (t1 : Int), .int .u32 (e1 : Int), .int .u32 (m1 : Int), .int .u32 (f1 : Int)] 29)) (.cells #[.int .u64 (t1 : Int), .int .u32 (e1 : Int), .int .u32 (m1 : Int), .int .u32 (f1 : Int)] 30)
  have hgw1 : w.heap.size ≤ w4.heap.size := hb4.size
  have hb5 := (hb4.alloc hb4.size (.cells #[.int .u64 (t1 : Int), .int .u32 (e1 : Int), .int .u32 (m1 : Int), .int .u32 (f1 : Int)] 29)).alloc (by have := hb4.size; simp; omega) (.cells #[.int .u64 (t1 : Int), .int .u32 (e1 : Int), .int .u32 (m1 : Int), .int .u32 (f1 : Int)] 30)
  clear hb3 hb4' x10 x11 x12 x13 hx1' hb4
  obtain ⟨⟨a00, a01, a02, a03⟩, b00, b01, b02, b03⟩ := cell4 hg0
  go_wp2_with fail
  clear a00 a01 a02 a03 b00 b01 b02 b03
  generalize (w4.alloc (.cells #[.int .u64 (t1 : Int), .int .u32 (e1 : Int), .int .u32 (m1 : Int), .int .u32 (f1 : Int)] 29)).alloc (.cells #[.int .u64 (t1 : Int), .int .u32 (e1 : Int), .int .u32 (m1 : Int), .int .u32 (f1 : Int)] 30) = w5 at *
  generalize w4.heap.size = g1 at *
  refine (mput_no _ t0 e0 m0 f0 S ht0 he0 hm0 hf0 HNO.out).mono ?_
  rintro r w6 ⟨rfl, hb6'⟩
  have hb6 := hb5.trans (hb6'.mono hb5.size)
  have hg1 := blk_below hg1 hb6' (blk_lt hg1)
  obtain ⟨⟨a10, a11, a12, a13⟩, b10, b11, b12, b13⟩ := cell4 hg1
  clear hb5 hb6' hg0
  go_wp2_with fail
  refine (mput_e _ t1 e1 m1 f1 S ht1 he1 hm1 hf1).mono ?_
  rintro r w7 ⟨A7, n7, c7, E, rfl, hb7', _⟩
  have hb7 := hb6.trans (hb7'.mono hb6.size)
  clear hb6 hb7' a10 a11 a12 a13 b10 b11 b12 b13 hg1
  go_wp2_with fail
  go_ret
  exact ⟨rfl, hb7⟩

set_option maxRecDepth 20000 in
set_option maxHeartbeats 2000000 in
theorem sector_no1 (w : World) (t0 e0 m0 f0 t1 e1 m1 f1 : Nat) (ht0 : t0 < 18446744073709551616) (he0 : e0 < 4294967296) (hm0 : m0 < 4294967296) (hf0 : f0 < 4294967296) (ht1 : t1 < 18446744073709551616) (he1 : e1 < 4294967296) (hm1 : m1 < 4294967296) (hf1 : f1 < 4294967296) (S : Int) (h0 : MRight t0 e0 m0 f0 ∧ 512 ≤ S ∧ S ≤ 4096) (hno : ¬ (MRight t1 e1 m1 f1 ∧ 512 ≤ S ∧ S ≤ 4096)) :
    Calls Try.prog 7 #[.agg #[.int .u64 (t0 : Int), .int .u32 (e0 : Int), .int .u32 (m0 : Int), .int .u32 (f0 : Int)], .agg #[.int .u64 (t1 : Int), .int .u32 (e1 : Int), .int .u32 (m1 : Int), .int .u32 (f1 : Int)], .int .i64 S] w fun r w' => r = .returned (.bool true) ∧ Below w.heap.size w w' := by
  have HNO := Lib.hid hno
  have H0 := Lib.hid h0
  clear hno h0
  have hx0 := blk_alloc (heap_alloc_new w (.cells #[.int .u64 (t0 : Int), .int .u32 (e0 : Int), .int .u32 (m0 : Int), .int .u32 (f0 : Int)] 25)) (.cells #[.int .u64 (t1 : Int), .int .u32 (e1 : Int), .int .u32 (m1 : Int), .int .u32 (f1 : Int)] 25)
  have hx1 := heap_alloc_new (w.alloc (.cells #[.int .u64 (t0 : Int), .int .u32 (e0 : Int), .int .u32 (m0 : Int), .int .u32 (f0 : Int)] 25)) (.cells #[.int .u64 (t1 : Int), .int .u32 (e1 : Int), .int .u32 (m1 : Int), .int .u32 (f1 : Int)] 25)
  have hb0 : Below w.heap.size w ((w.alloc (.cells #[.int .u64 (t0 : Int), .int .u32 (e0 : Int), .int .u32 (m0 : Int), .int .u32 (f0 : Int)] 25)).alloc (.cells #[.int .u64 (t1 : Int), .int .u32 (e1 : Int), .int .u32 (m1 : Int), .int .u32 (f1 : Int)] 25)) := ((Below.refl _ _).alloc (Nat.le_refl _) _).alloc (by simp) _
  rw [World.size_alloc] at hx1
  have HX0 := Lib.hid hx0
  have HX1 := Lib.hid hx1
  clear hx0 hx1
  go_enter Try.func7, Try.ntmps7
  go_wp2_with fail
  refine (awake7 _).mono ?_
  rintro r w1 ⟨rfl, hb1'⟩
  have hb1 := hb0.trans (hb1'.mono hb0.size)
  have hx0 := blk_below HX0.out hb1' (blk_lt HX0.out)
  have hx1 := blk_below HX1.out hb1' (blk_lt HX1.out)
  obtain ⟨⟨x00, x01, x02, x03⟩, _⟩ := cell4 hx0
  clear hb0 hb1' HX0 HX1
  go_wp2_with fail
  refine (of_any _ t0 e0 m0 f0).mono ?_
  rintro r w2 ⟨rfl, hb2'⟩
  have hb2 := hb1.trans (hb2'.mono hb1.size)
  have hx1 := blk_below hx1 hb2' (blk_lt hx1)
  have hg0 := blk_alloc (heap_alloc_new w2 (.cells #[.int .u64 (t0 : Int), .int .u32 (e0 : Int), .int .u32 (m0 : Int), .int .u32 (f0 : Int)] 29)) (.cells #[.int .u64 (t0 : Int), .int .u32 (e0 : Int), .int .u32 (m0 : Int), .int .u32 (f0 : Int)] 30)
  have hgw0 : w.heap.size ≤ w2.heap.size := hb2.size
  have hb3 := (hb2.alloc hb2.size (.cells #[.int .u64 (t0 : Int), .int .u32 (e0 : Int), .int .u32 (m0 : Int), .int .u32 (f0 : Int)] 29)).alloc (by have := hb2.size; simp; omega) (.cells #[.int .u64 (t0 : Int), .int .u32 (e0 : Int), .int .u32 (m0 : Int), .int .u32 (f0 : Int)] 30)
  have hx1' := blk_alloc (blk_alloc hx1 (.cells #[.int .u64 (t0 : Int), .int .u32 (e0 : Int), .int .u32 (m0 : Int), .int .u32 (f0 : Int)] 29)) (.cells #[.int .u64 (t0 : Int), .int .u32 (e0 : Int), .int .u32 (m0 : Int), .int .u32 (f0 : Int)] 30)
  obtain ⟨⟨x10, x11, x12, x13⟩, _⟩ := cell4 hx1'
  clear hb1 hb2' x00 x01 x02 x03 hx0 hx1 hb2
  go_wp2_with fail
  generalize (w2.alloc (.cells #[.int .u64 (t0 : Int), .int .u32 (e0 : Int), .int .u32 (m0 : Int), .int .u32 (f0 : Int)] 29)).alloc (.cells #[.int .u64 (t0 : Int), .int .u32 (e0 : Int), .int .u32 (m0 : Int), .int .u32 (f0 : Int)] 30) = w3 at *
  generalize w2.heap.size = g0 at *
  refine (of_any _ t1 e1 m1 f1).mono ?_
  rintro r w4 ⟨rfl, hb4'⟩
  have hb4 := hb3.trans (hb4'.mono hb3.size)
  have hg0 := blk_below hg0 hb4' (blk_lt hg0)
  have hne : g0 ≠ w4.heap.size := by have := blk_lt hg0; omega
  have hg0 := blk_alloc (blk_alloc hg0 (.cells #[.int .u64 (t1 : Int), .int .u32 (e1 : Int), .int .u32 (m1 : Int), .int .u32 (f1 : Int)] 29)) (.cells #[.int .u64 (t1 : Int), .int .u32 (e1 : Int), .int .u32 (m1 : Int), .int .u32 (f1 : Int)] 30)
  have hg1 := blk_alloc (heap_alloc_new w4 (.cells #[.int .u64 (t1 : Int), .int .u32 (e1 : Int), .int .u32 (m1 : Int), .int .u32 (f1 : Int)] 29)) (.cells #[.int .u64 (t1 : Int), .int .u32 (e1 : Int), .int .u32 (m1 : Int), .int .u32 (f1 : Int)] 30)
  have hgw1 : w.heap.size ≤ w4.heap.size := hb4.size
  have hb5 := (hb4.alloc hb4.size (.cells #[.int .u64 (t1 : Int), .int .u32 (e1 : Int), .int .u32 (m1 : Int), .int .u32 (f1 : Int)] 29)).alloc (by have := hb4.size; simp; omega) (.cells #[.int .u64 (t1 : Int), .int .u32 (e1 : Int), .int .u32 (m1 : Int), .int .u32 (f1 : Int)] 30)
  clear hb3 hb4' x10 x11 x12 x13 hx1' hb4
  obtain ⟨⟨a00, a01, a02, a03⟩, b00, b01, b02, b03⟩ := cell4 hg0
  go_wp2_with fail
  clear a00 a01 a02 a03 b00 b01 b02 b03
  generalize (w4.alloc (.cells #[.int .u64 (t1 : Int), .int .u32 (e1 : Int), .int .u32 (m1 : Int), .int .u32 (f1 : Int)] 29)).alloc (.cells #[.int .u64 (t1 : Int), .int .u32 (e1 : Int), .int .u32 (m1 : Int), .int .u32 (f1 : Int)] 30) = w5 at *
  generalize w4.heap.size = g1 at *
  refine (mput_e _ t0 e0 m0 f0 S ht0 he0 hm0 hf0).mono ?_
  rintro r w6 ⟨A6, n6, c6, E6, rfl, hb6', hE6⟩
  obtain rfl := hE6.out H0.out
  have hb6 := hb5.trans (hb6'.mono hb5.size)
  have hg1 := blk_below hg1 hb6' (blk_lt hg1)
  obtain ⟨⟨a10, a11, a12, a13⟩, b10, b11, b12, b13⟩ := cell4 hg1
  clear hb5 hb6' hg0 hE6
  go_wp2_with fail
  refine (mput_no _ t1 e1 m1 f1 S ht1 he1 hm1 hf1 HNO.out).mono ?_
  rintro r w7 ⟨rfl, hb7'⟩
  have hb7 := hb6.trans (hb7'.mono hb6.size)
  clear hb6 hb7' a10 a11 a12 a13 b10 b11 b12 b13 hg1
  go_wp2_with fail
  go_ret
  exact ⟨rfl, hb7⟩

set_option maxRecDepth 20000 in
set_option maxHeartbeats 2000000 in
theorem sector_ok (w : World) (t0 e0 m0 f0 t1 e1 m1 f1 : Nat) (ht0 : t0 < 18446744073709551616) (he0 : e0 < 4294967296) (hm0 : m0 < 4294967296) (hf0 : f0 < 4294967296) (ht1 : t1 < 18446744073709551616) (he1 : e1 < 4294967296) (hm1 : m1 < 4294967296) (hf1 : f1 < 4294967296) (size : Nat) (h1 : 512 ≤ size) (h2 : size ≤ 4096) (hR0 : MRight t0 e0 m0 f0) (hR1 : MRight t1 e1 m1 f1)  :
    Calls Try.prog 7 #[.agg #[.int .u64 (t0 : Int), .int .u32 (e0 : Int), .int .u32 (m0 : Int), .int .u32 (f0 : Int)], .agg #[.int .u64 (t1 : Int), .int .u32 (e1 : Int), .int .u32 (m1 : Int), .int .u32 (f1 : Int)], .int .i64 (size : Int)] w fun r w' => r = .returned (.bool true) ∧ Below w.heap.size w w' := by
  have MG := Lib.hid (mGet_put t0 e0 m0 f0 size ht0 he0 hm0 hf0 hR0 h1 h2)
  have L0 := Lib.hid (mPut_length t0 e0 m0 f0 size (by omega))
  have L1 := Lib.hid (mPut_length t1 e1 m1 f1 size (by omega))
  obtain ⟨ii, hi0, hz0, hz1, hz2⟩ := info_parts info_u8
  have hx0 := blk_alloc (heap_alloc_new w (.cells #[.int .u64 (t0 : Int), .int .u32 (e0 : Int), .int .u32 (m0 : Int), .int .u32 (f0 : Int)] 25)) (.cells #[.int .u64 (t1 : Int), .int .u32 (e1 : Int), .int .u32 (m1 : Int), .int .u32 (f1 : Int)] 25)
  have hx1 := heap_alloc_new (w.alloc (.cells #[.int .u64 (t0 : Int), .int .u32 (e0 : Int), .int .u32 (m0 : Int), .int .u32 (f0 : Int)] 25)) (.cells #[.int .u64 (t1 : Int), .int .u32 (e1 : Int), .int .u32 (m1 : Int), .int .u32 (f1 : Int)] 25)
  have hb0 : Below w.heap.size w ((w.alloc (.cells #[.int .u64 (t0 : Int), .int .u32 (e0 : Int), .int .u32 (m0 : Int), .int .u32 (f0 : Int)] 25)).alloc (.cells #[.int .u64 (t1 : Int), .int .u32 (e1 : Int), .int .u32 (m1 : Int), .int .u32 (f1 : Int)] 25)) := ((Below.refl _ _).alloc (Nat.le_refl _) _).alloc (by simp) _
  rw [World.size_alloc] at hx1
  have HX0 := Lib.hid hx0
  have HX1 := Lib.hid hx1
  clear hx0 hx1
  go_enter Try.func7, Try.ntmps7
  go_wp2_with fail
  refine (awake7 _).mono ?_
  rintro r w1 ⟨rfl, hb1'⟩
  have hb1 := hb0.trans (hb1'.mono hb0.size)
  have hx0 := blk_below HX0.out hb1' (blk_lt HX0.out)
  have hx1 := blk_below HX1.out hb1' (blk_lt HX1.out)
  obtain ⟨⟨x00, x01, x02, x03⟩, _⟩ := cell4 hx0
  clear hb0 hb1' HX0 HX1
  go_wp2_with fail
  refine (of_any _ t0 e0 m0 f0).mono ?_
  rintro r w2 ⟨rfl, hb2'⟩
  have hb2 := hb1.trans (hb2'.mono hb1.size)
  have hx1 := blk_below hx1 hb2' (blk_lt hx1)
  have hg0 := blk_alloc (heap_alloc_new w2 (.cells #[.int .u64 (t0 : Int), .int .u32 (e0 : Int), .int .u32 (m0 : Int), .int .u32 (f0 : Int)] 29)) (.cells #[.int .u64 (t0 : Int), .int .u32 (e0 : Int), .int .u32 (m0 : Int), .int .u32 (f0 : Int)] 30)
  have hgw0 : w.heap.size ≤ w2.heap.size := hb2.size
  have hb3 := (hb2.alloc hb2.size (.cells #[.int .u64 (t0 : Int), .int .u32 (e0 : Int), .int .u32 (m0 : Int), .int .u32 (f0 : Int)] 29)).alloc (by have := hb2.size; simp; omega) (.cells #[.int .u64 (t0 : Int), .int .u32 (e0 : Int), .int .u32 (m0 : Int), .int .u32 (f0 : Int)] 30)
  have hx1' := blk_alloc (blk_alloc hx1 (.cells #[.int .u64 (t0 : Int), .int .u32 (e0 : Int), .int .u32 (m0 : Int), .int .u32 (f0 : Int)] 29)) (.cells #[.int .u64 (t0 : Int), .int .u32 (e0 : Int), .int .u32 (m0 : Int), .int .u32 (f0 : Int)] 30)
  obtain ⟨⟨x10, x11, x12, x13⟩, _⟩ := cell4 hx1'
  clear hb1 hb2' x00 x01 x02 x03 hx0 hx1 hb2
  go_wp2_with fail
  generalize (w2.alloc (.cells #[.int .u64 (t0 : Int), .int .u32 (e0 : Int), .int .u32 (m0 : Int), .int .u32 (f0 : Int)] 29)).alloc (.cells #[.int .u64 (t0 : Int), .int .u32 (e0 : Int), .int .u32 (m0 : Int), .int .u32 (f0 : Int)] 30) = w3 at *
  generalize w2.heap.size = g0 at *
  refine (of_any _ t1 e1 m1 f1).mono ?_
  rintro r w4 ⟨rfl, hb4'⟩
  have hb4 := hb3.trans (hb4'.mono hb3.size)
  have hg0 := blk_below hg0 hb4' (blk_lt hg0)
  have hne : g0 ≠ w4.heap.size := by have := blk_lt hg0; omega
  have hg0 := blk_alloc (blk_alloc hg0 (.cells #[.int .u64 (t1 : Int), .int .u32 (e1 : Int), .int .u32 (m1 : Int), .int .u32 (f1 : Int)] 29)) (.cells #[.int .u64 (t1 : Int), .int .u32 (e1 : Int), .int .u32 (m1 : Int), .int .u32 (f1 : Int)] 30)
  have hg1 := blk_alloc (heap_alloc_new w4 (.cells #[.int .u64 (t1 : Int), .int .u32 (e1 : Int), .int .u32 (m1 : Int), .int .u32 (f1 : Int)] 29)) (.cells #[.int .u64 (t1 : Int), .int .u32 (e1 : Int), .int .u32 (m1 : Int), .int .u32 (f1 : Int)] 30)
  have hgw1 : w.heap.size ≤ w4.heap.size := hb4.size
  have hb5 := (hb4.alloc hb4.size (.cells #[.int .u64 (t1 : Int), .int .u32 (e1 : Int), .int .u32 (m1 : Int), .int .u32 (f1 : Int)] 29)).alloc (by have := hb4.size; simp; omega) (.cells #[.int .u64 (t1 : Int), .int .u32 (e1 : Int), .int .u32 (m1 : Int), .int .u32 (f1 : Int)] 30)
  clear hb3 hb4' x10 x11 x12 x13 hx1' hb4
  obtain ⟨⟨a00, a01, a02, a03⟩, b00, b01, b02, b03⟩ := cell4 hg0
  go_wp2_with fail
  clear a00 a01 a02 a03 b00 b01 b02 b03
  generalize (w4.alloc (.cells #[.int .u64 (t1 : Int), .int .u32 (e1 : Int), .int .u32 (m1 : Int), .int .u32 (f1 : Int)] 29)).alloc (.cells #[.int .u64 (t1 : Int), .int .u32 (e1 : Int), .int .u32 (m1 : Int), .int .u32 (f1 : Int)] 30) = w5 at *
  generalize w4.heap.size = g1 at *
  refine (mput_ok _ t0 e0 m0 f0 size ht0 he0 hm0 hf0 hR0 h1 h2).mono ?_
  rintro r w6 ⟨p0, rfl, hp0, hP0, hb6'⟩
  have hgp0 : g0 < p0 ∧ g1 < p0 := ⟨Nat.lt_of_lt_of_le (blk_lt hg0) hp0, Nat.lt_of_lt_of_le (blk_lt hg1) hp0⟩
  have hb6 := hb5.trans (hb6'.mono hb5.size)
  have hg0 := blk_below hg0 hb6' (blk_lt hg0)
  have hg1 := blk_below hg1 hb6' (blk_lt hg1)
  obtain ⟨⟨a10, a11, a12, a13⟩, b10, b11, b12, b13⟩ := cell4 hg1
  have hpw0 : w.heap.size ≤ p0 := Nat.le_trans hb5.size hp0
  clear hb5 hb6'
  go_wp2_with fail
  refine (mput_ok _ t1 e1 m1 f1 size ht1 he1 hm1 hf1 hR1 h1 h2).mono ?_
  rintro r w7 ⟨p1, rfl, hp1, hP1, hb7'⟩
  have hgp1 : g0 < p1 ∧ g1 < p1 := ⟨Nat.lt_of_lt_of_le (blk_lt hg0) hp1, Nat.lt_of_lt_of_le (blk_lt hg1) hp1⟩
  have hb7 := hb6.trans (hb7'.mono hb6.size)
  have hg0 := blk_below hg0 hb7' (blk_lt hg0)
  have hg1 := blk_below hg1 hb7' (blk_lt hg1)
  have hP0 := hP0.below hb7' hP0.lt
  have hpw1 : w.heap.size ≤ p1 := Nat.le_trans hb6.size hp1
  clear hb6 hb7' a10 a11 a12 a13 b10 b11 b12 b13
  go_wp2_with fail
  go_loop [16] (fun i => ∃ k : Nat, 128 ≤ k ∧ k ≤ size ∧ i = .int .i64 (k : Int)) (fun i => size - (intOf i).toNat)
  case atStart => exact ⟨128, by omega, by omega, rfl⟩
  case round =>
    obtain ⟨k, hk1, hk2, rfl⟩ := hrel
    by_cases hlt : k < size
    · have hc := hP0.cell (mPut_nought t0 e0 m0 f0 size k (by omega) hlt)
      go_wp2
      go_round
      case rel => exact ⟨k + 1, by omega, by omega, by go_num⟩
      case measure => simp [intOf]; omega
    · obtain ⟨A8, hcut8', hsl8⟩ := cut_h (P := Try.prog) 33 5 .i64 Try.underlying33 hi0 hz1 (some ⟨p0, 0, none⟩) size size 128 (by omega)
      obtain ⟨A9, hcut9', hsl9⟩ := cut_l (P := Try.prog) 33 5 .i64 Try.underlying33 hi0 hz1 (some ⟨p1, 0, none⟩) size size 128 (by omega)
      have hcut8 : ∀ W : World, (Instr.slice 33 (.slice (some ⟨p0, 0, none⟩) size size) none (some (.int .i64 128)) none).run Try.prog W = .ok (.slice A8 128 size) W := hcut8'
      have hcut9 : ∀ W : World, (Instr.slice 33 (.slice (some ⟨p1, 0, none⟩) size size) (some (.int .i64 128)) none none).run Try.prog W = .ok (.slice A9 (size - 128) (size - 128)) W := hcut9'
      have hs8 := hsl8 _ _ _ (by omega) (hP0.slN L0.out (by omega))
      have hs9 := hsl9 _ _ _ (hP1.slN L1.out (by omega))
      have hP1z := hP1.lt
      clear hcut8' hcut9' hsl8 hsl9 hP0 hP1 hk1 hk2
      go_wp2_with (first | (at_builtin; refine wpList_append_any _ rfl _ _ _ rfl w7.heap.size 5 ii _ 1 1 Try.underlying33 hi0 hz0 hz1 hz2 rfl (by omega) (.slice none 0 0) 0 [] rfl (World.ownsRow_nil _ _ _ _) _ A8 128 size _ rfl hs8.reads (bv_one _) (by unfold maxLen; omega) (by omega) (Nat.le_refl _) ?_))
      intro v8 w8 hown8 hg8 hat8
      obtain ⟨A', c', rfl⟩ := own_slice hown8
      have hb8' : Below w7.heap.size w7 w8 := (Below.refl _ _).grown hg8 (by simp) (fun k hk => by simp [Value.ownBlock] at hk)
      have hs9' := hs9.below hb8'
      have hg0 := blk_below hg0 hb8' (blk_lt hg0)
      have hb8 := hb7.trans (hb8'.mono hb7.size)
      have hsz8 := hb8'.size
      have hb7z := hb7.size
      have hg0z : g0 < w7.heap.size := by have := hgp1; have := hP1z; omega
      have hown8 : w8.ownsRow w7.heap.size 5 1 (.slice A' 128 c') 128 (bv ((mPut t0 e0 m0 f0 size).take 128)) := hown8
      clear hat8 hg8 hs8 hs9 hcut8 hb7
      go_wp2_with (first | (at_builtin; refine wpList_append_any _ rfl _ _ _ rfl w7.heap.size 5 ii _ 1 1 Try.underlying33 hi0 hz0 hz1 hz2 rfl (by omega) (.slice A' 128 c') 128 _ rfl hown8 _ A9 (size - 128) (size - 128) _ rfl hs9'.reads (bv_one _) (by unfold maxLen; omega) (by omega) hsz8 ?_))
      intro v9 w9 hown9 hg9 hat9
      obtain ⟨A10, c10, rfl⟩ := own_slice hown9
      have hb9' : Below w7.heap.size w8 w9 := (Below.refl _ _).grown hg9 hsz8 (fun k hk => own_base hown8 k hk)
      have hg0 := blk_below hg0 hb9' (by omega)
      have hb9 := hb8.trans (hb9'.mono hb7z)
      rw [← bv_append, mPut_drop t1 e1 m1 f1 size 128 (by omega) (by omega), ← mPut_drop t0 e0 m0 f0 size 128 (by omega) (by omega), List.take_append_drop] at hown9
      have hs10 := Sl.of_own hown9
      clear hown9 hown8 hg9 hat9 hs9' hb9' hsz8 hb8 hcut9
      go_wp2_with fail
      refine (mget_is _ _ _ _ _ _ t0 e0 m0 f0 hs10 (by omega) MG).mono ?_
      rintro r w11 ⟨rfl, hb11'⟩
      have hb11 := hb9.trans (hb11'.mono hb9.size)
      have hg0 := blk_below hg0 hb11' (blk_lt hg0)
      have hbz := hb11.alloc hb11.size (.cells #[.int .u64 (t0 : Int), .int .u32 (e0 : Int), .int .u32 (m0 : Int), .int .u32 (f0 : Int)] 29)
      obtain ⟨⟨a00, a01, a02, a03⟩, _⟩ := cell4 (blk_alloc hg0 (.cells #[.int .u64 (t0 : Int), .int .u32 (e0 : Int), .int .u32 (m0 : Int), .int .u32 (f0 : Int)] 29))
      clear hb9 hb11' hb11 hs10 hg0
      go_wp2_with fail
      go_ret
      exact ⟨rfl, hbz⟩

set_option maxRecDepth 20000 in
set_option maxHeartbeats 2000000 in
theorem metaSector_law (w : World) (t0 e0 m0 f0 t1 e1 m1 f1 : Nat) (ht0 : t0 < 18446744073709551616) (he0 : e0 < 4294967296) (hm0 : m0 < 4294967296) (hf0 : f0 < 4294967296) (ht1 : t1 < 18446744073709551616) (he1 : e1 < 4294967296) (hm1 : m1 < 4294967296) (hf1 : f1 < 4294967296) (S : Int)  :
    Calls Try.prog 7 #[.agg #[.int .u64 (t0 : Int), .int .u32 (e0 : Int), .int .u32 (m0 : Int), .int .u32 (f0 : Int)], .agg #[.int .u64 (t1 : Int), .int .u32 (e1 : Int), .int .u32 (m1 : Int), .int .u32 (f1 : Int)], .int .i64 S] w fun r w' => r = .returned (.bool true) ∧ Below w.heap.size w w' := by
  by_cases h0 : MRight t0 e0 m0 f0 ∧ 512 ≤ S ∧ S ≤ 4096
  · by_cases h1 : MRight t1 e1 m1 f1 ∧ 512 ≤ S ∧ S ≤ 4096
    · obtain ⟨size, rfl⟩ := Int.eq_ofNat_of_zero_le (show 0 ≤ S by omega)
      exact sector_ok w t0 e0 m0 f0 t1 e1 m1 f1 ht0 he0 hm0 hf0 ht1 he1 hm1 hf1 size (by omega) (by omega) h0.1 h1.1
    · exact sector_no1 w t0 e0 m0 f0 t1 e1 m1 f1 ht0 he0 hm0 hf0 ht1 he1 hm1 hf1 S h0 h1
  · exact sector_no0 w t0 e0 m0 f0 t1 e1 m1 f1 ht0 he0 hm0 hf0 ht1 he1 hm1 hf1 S h0

end Go.Proofs.Ytpipgeboddaipaa
