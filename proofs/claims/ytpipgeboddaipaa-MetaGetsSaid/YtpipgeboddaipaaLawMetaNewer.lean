/- Layer 7's statement: MetaNewer. -/
import Derived.Test.YtpipgeboddaipaaMetaA
namespace Go.Proofs.Ytpipgeboddaipaa
open Go.RowKit
set_option linter.unusedVariables false
set_option linter.unusedSimpArgs false


theorem mput_e (w : World) (t e m f : Nat) (S : Int) (ht : t < 18446744073709551616) (he : e < 4294967296) (hm : m < 4294967296) (hf : f < 4294967296) :
    Calls Try.prog 12 #[.agg #[.int .u64 (t : Int), .int .u32 (e : Int), .int .u32 (m : Int), .int .u32 (f : Int)], .int .i64 S] w fun r w' => ∃ A n c, ∃ E : Int, r = .returned (.tuple #[.slice A n c, .int .i64 E]) ∧ Below w.heap.size w w' ∧ Hid ((MRight t e m f ∧ 512 ≤ S ∧ S ≤ 4096) → E = 0) := by
  by_cases h : MRight t e m f ∧ 512 ≤ S ∧ S ≤ 4096
  · obtain ⟨size, rfl⟩ := Int.eq_ofNat_of_zero_le (show 0 ≤ S by omega)
    refine (mput_ok w t e m f size ht he hm hf h.1 (by omega) (by omega)).mono ?_
    rintro r w' ⟨g, rfl, _, _, hb⟩
    exact ⟨_, _, _, _, rfl, hb, Lib.hid (fun _ => rfl)⟩
  · refine (mput_no w t e m f S ht he hm hf h).mono ?_
    rintro r w' ⟨rfl, hb⟩
    exact ⟨_, _, _, _, rfl, hb, Lib.hid (fun hh => absurd hh h)⟩


theorem chosen_right (t0 e0 m0 f0 t1 e1 m1 f1 size : Nat) (ht0 : t0 < 18446744073709551616) (he0 : e0 < 4294967296) (hm0 : m0 < 4294967296) (hf0 : f0 < 4294967296) (ht1 : t1 < 18446744073709551616) (he1 : e1 < 4294967296) (hm1 : m1 < 4294967296) (hf1 : f1 < 4294967296) (hR0 : MRight t0 e0 m0 f0) (hR1 : MRight t1 e1 m1 f1) (h1 : 512 ≤ size) (h2 : size ≤ 4096) (p0 : t0 % 2 = 0) (p1 : t1 % 2 = 1) :
    mChosen (mPut t0 e0 m0 f0 size) (mPut t1 e1 m1 f1 size) = if t0 < t1 then (t1, e1, m1, f1) else (t0, e0, m0, f0) := by
  unfold mChosen
  rw [mStep_put 0 t0 e0 m0 f0 size _ ht0 he0 hm0 hf0 hR0 h1 h2, mStep_put 1 t1 e1 m1 f1 size _ ht1 he1 hm1 hf1 hR1 h1 h2]
  have : 0 < t0 := hR0.2.2.1
  have h0 : (if t0 % 2 = 0 ∧ (0, 0, 0, 0).1 < t0 then (t0, e0, m0, f0) else (0, 0, 0, 0)) = (t0, e0, m0, f0) := if_pos ⟨p0, this⟩
  rw [h0]
  by_cases h : t0 < t1
  · rw [if_pos ⟨p1, h⟩, if_pos h]
  · rw [if_neg (fun hh => h hh.2), if_neg h]
theorem chosen_wrong (t0 e0 m0 f0 t1 e1 m1 f1 size : Nat) (ht0 : t0 < 18446744073709551616) (he0 : e0 < 4294967296) (hm0 : m0 < 4294967296) (hf0 : f0 < 4294967296) (ht1 : t1 < 18446744073709551616) (he1 : e1 < 4294967296) (hm1 : m1 < 4294967296) (hf1 : f1 < 4294967296) (hR0 : MRight t0 e0 m0 f0) (hR1 : MRight t1 e1 m1 f1) (h1 : 512 ≤ size) (h2 : size ≤ 4096) (p0 : t0 % 2 = 0) (p1 : t1 % 2 = 1) :
    mChosen (mPut t1 e1 m1 f1 size) (mPut t0 e0 m0 f0 size) = (0, 0, 0, 0) := by
  unfold mChosen
  rw [mStep_put 0 t1 e1 m1 f1 size _ ht1 he1 hm1 hf1 hR1 h1 h2, mStep_put 1 t0 e0 m0 f0 size _ ht0 he0 hm0 hf0 hR0 h1 h2]
  rw [if_neg (fun hh => by omega), if_neg (fun hh => by omega)]

set_option maxRecDepth 20000 in
set_option maxHeartbeats 2000000 in
theorem newer_no0 (w : World) (t0 e0 m0 f0 t1 e1 m1 f1 : Nat) (ht0 : t0 < 18446744073709551616) (he0 : e0 < 4294967296) (hm0 : m0 < 4294967296) (hf0 : f0 < 4294967296) (ht1 : t1 < 18446744073709551616) (he1 : e1 < 4294967296) (hm1 : m1 < 4294967296) (hf1 : f1 < 4294967296) (S : Int) (hno : ¬ (MRight t0 e0 m0 f0 ∧ 512 ≤ S ∧ S ≤ 4096)) :
    Calls Try.prog 8 #[.agg #[.int .u64 (t0 : Int), .int .u32 (e0 : Int), .int .u32 (m0 : Int), .int .u32 (f0 : Int)], .agg #[.int .u64 (t1 : Int), .int .u32 (e1 : Int), .int .u32 (m1 : Int), .int .u32 (f1 : Int)], .int .i64 S] w fun r w' => r = .returned (.bool true) ∧ Below w.heap.size w w' := by
  have HNO := Lib.hid hno
  clear hno
  have hx0 := blk_alloc (heap_alloc_new w (.cells #[.int .u64 (t0 : Int), .int .u32 (e0 : Int), .int .u32 (m0 : Int), .int .u32 (f0 : Int)] 25)) (.cells #[.int .u64 (t1 : Int), .int .u32 (e1 : Int), .int .u32 (m1 : Int), .int .u32 (f1 : Int)] 25)
  have hx1 := heap_alloc_new (w.alloc (.cells #[.int .u64 (t0 : Int), .int .u32 (e0 : Int), .int .u32 (m0 : Int), .int .u32 (f0 : Int)] 25)) (.cells #[.int .u64 (t1 : Int), .int .u32 (e1 : Int), .int .u32 (m1 : Int), .int .u32 (f1 : Int)] 25)
  have hb0 : Below w.heap.size w ((w.alloc (.cells #[.int .u64 (t0 : Int), .int .u32 (e0 : Int), .int .u32 (m0 : Int), .int .u32 (f0 : Int)] 25)).alloc (.cells #[.int .u64 (t1 : Int), .int .u32 (e1 : Int), .int .u32 (m1 : Int), .int .u32 (f1 : Int)] 25)) := ((Below.refl _ _).alloc (Nat.le_refl _) _).alloc (by simp) _
  rw [World.size_alloc] at hx1
  have HX0 := Lib.hid hx0
  have HX1 := Lib.hid hx1
  clear hx0 hx1
  go_enter Try.func8, Try.ntmps8
  go_wp2_with fail
  refine (awake7 _).mono ?_
  rintro r w1 ⟨rfl, hb1'⟩
  have hb1 := hb0.trans (hb1'.mono hb0.size)
  have hx0 := blk_below HX0.out hb1' (blk_lt HX0.out)
  have hx1 := blk_below HX1.out hb1' (blk_lt HX1.out)
  obtain ⟨⟨x00, x01, x02, x03⟩, _⟩ := cell4 hx0
  clear hb0 hb1' HX0 HX1
  go_wp2_with fail
  refine (of_any _ t0 e0 m0 f0).mono ?_
  rintro r w2 ⟨rfl, hb2'⟩
  have hb2 := hb1.trans (hb2'.mono hb1.size)
  have hx1 := blk_below hx1 hb2' (blk_lt hx1)
  have hg0 := blk_alloc (heap_alloc_new w2 (.cells #[.int .u64 (t0 : Int), .int .u32 (e0 : Int), .int .u32 (m0 : Int), .int .u32 (f0 : Int)] 29)) (.cells #[.int .u64 (t0 : Int), .int .u32 (e0 : Int), .int .u32 (m0 : Int), .int .u32 (f0 : Int)] 30)
  have hgw0 : w.heap.size ≤ w2.heap.size := hb2.size
  have hb3 := (hb2.alloc hb2.size (.cells #[.int .u64 (t0 : Int), .int .u32 (e0 : Int), .int .u32 (m0 : Int), .int .u32 (f0 : Int)] 29)).alloc (by have := hb2.size; simp; omega) (.cells #[.int .u64 (t0 : Int), .int .u32 (e0 : Int), .int .u32 (m0 : Int), .int .u32 (f0 : Int)] 30)
  have hx1' := blk_alloc (blk_alloc hx1 (.cells #[.int .u64 (t0 : Int), .int .u32 (e0 : Int), .int .u32 (m0 : Int), .int .u32 (f0 : Int)] 29)) (.cells #[.int .u64 (t0 : Int), .int .u32 (e0 : Int), .int .u32 (m0 : Int), .int .u32 (f0 : Int)] 30)
  obtain ⟨⟨x10, x11, x12, x13⟩, _⟩ := cell4 hx1'
  clear hb1 hb2' x00 x01 x02 x03 hx0 hx1 hb2
  go_wp2_with fail
  generalize (w2.alloc (.cells #[.int .u64 (t0 : Int), .int .u32 (e0 : Int), .int .u32 (m0 : Int), .int .u32 (f0 : Int)] 29)).alloc (.cells #[.int .u64 (t0 : Int), .int .u32 (e0 : Int), .int .u32 (m0 : Int), .int .u32 (f0 : Int)] 30) = w3 at *
  generalize w2.heap.size = g0 at *
  refine (of_any _ t1 e1 m1 f1).mono ?_
  rintro r w4 ⟨rfl, hb4'⟩
  have hb4 := hb3.trans (hb4'.mono hb3.size)
  have hg0 := blk_below hg0 hb4' (blk_lt hg0)
  have hne : g0 ≠ w4.heap.size := by have := blk_lt hg0; omega
  have hg0 := blk_alloc (blk_alloc hg0 (.cells #[.int .u64 (t1 : Int), .int .u32 (e1 : Int), .int .u32 (m1 : Int), .int .u32 (f1 : Int)] 29)) (.cells #[.int .u64 (t1 : Int), .int .u32 (e1 : Int), .int .u32 (m1 : Int), .int .u32 (f1 : Int)] 30)
  have hg1 := blk_alloc (heap_alloc_new w4 (.cells #[.int .u64 (t1 : Int), .int .u32 (e1 : Int), .int .u32 (m1 : Int), .int .u32 (f1 : Int)] 29)) (.cells #[.int .u64 (t1 : Int), .int .u32 (e1 : Int), .int .u32 (m1 : Int), .int .u32 (f1 : Int)] 30)
  have hgw1 : w.heap.size ≤ w4.heap.size := hb4.size
  have hb5 := (hb4.alloc hb4.size (.cells #[.int .u64 (t1 : Int), .int .u32 (e1 : Int), .int .u32 (m1 : Int), .int .u32 (f1 : Int)] 29)).alloc (by have := hb4.size; simp; omega) (.cells #[.int .u64 (t1 : Int), .int .u32 (e1 : Int), .int .u32 (m1 : Int), .int .u32 (f1 : Int)] 30)
  clear hb3 hb4' x10 x11 x12 x13 hx1' hb4
  obtain ⟨⟨a00, a01, a02, a03⟩, b00, b01, b02, b03⟩ := cell4 hg0
  go_wp2_with fail
  clear a00 a01 a02 a03 b00 b01 b02 b03
  generalize (w4.alloc (.cells #[.int .u64 (t1 : Int), .int .u32 (e1 : Int), .int .u32 (m1 : Int), .int .u32 (f1 : Int)] 29)).alloc (.cells #[.int .u64 (t1 : Int), .int .u32 (e1 : Int), .int .u32 (m1 : Int), .int .u32 (f1 : Int)] 30) = w5 at *
  generalize w4.heap.size = g1 at *
  refine (mput_no _ t0 e0 m0 f0 S ht0 he0 hm0 hf0 HNO.out).mono ?_
  rintro r w6 ⟨rfl, hb6'⟩
  have hb6 := hb5.trans (hb6'.mono hb5.size)
  have hg1 := blk_below hg1 hb6' (blk_lt hg1)
  obtain ⟨⟨a10, a11, a12, a13⟩, b10, b11, b12, b13⟩ := cell4 hg1
  clear hb5 hb6' hg0
  go_wp2_with fail
  refine (mput_e _ t1 e1 m1 f1 S ht1 he1 hm1 hf1).mono ?_
  rintro r w7 ⟨A7, n7, c7, E, rfl, hb7', _⟩
  have hb7 := hb6.trans (hb7'.mono hb6.size)
  clear hb6 hb7' a10 a11 a12 a13 b10 b11 b12 b13 hg1
  go_wp2_with fail
  go_ret
  exact ⟨rfl, hb7⟩

set_option maxRecDepth 20000 in
set_option maxHeartbeats 2000000 in
theorem newer_no1 (w : World) (t0 e0 m0 f0 t1 e1 m1 f1 : Nat) (ht0 : t0 < 18446744073709551616) (he0 : e0 < 4294967296) (hm0 : m0 < 4294967296) (hf0 : f0 < 4294967296) (ht1 : t1 < 18446744073709551616) (he1 : e1 < 4294967296) (hm1 : m1 < 4294967296) (hf1 : f1 < 4294967296) (S : Int) (h0 : MRight t0 e0 m0 f0 ∧ 512 ≤ S ∧ S ≤ 4096) (hno : ¬ (MRight t1 e1 m1 f1 ∧ 512 ≤ S ∧ S ≤ 4096)) :
    Calls Try.prog 8 #[.agg #[.int .u64 (t0 : Int), .int .u32 (e0 : Int), .int .u32 (m0 : Int), .int .u32 (f0 : Int)], .agg #[.int .u64 (t1 : Int), .int .u32 (e1 : Int), .int .u32 (m1 : Int), .int .u32 (f1 : Int)], .int .i64 S] w fun r w' => r = .returned (.bool true) ∧ Below w.heap.size w w' := by
  have HNO := Lib.hid hno
  have H0 := Lib.hid h0
  clear hno h0
  have hx0 := blk_alloc (heap_alloc_new w (.cells #[.int .u64 (t0 : Int), .int .u32 (e0 : Int), .int .u32 (m0 : Int), .int .u32 (f0 : Int)] 25)) (.cells #[.int .u64 (t1 : Int), .int .u32 (e1 : Int), .int .u32 (m1 : Int), .int .u32 (f1 : Int)] 25)
  have hx1 := heap_alloc_new (w.alloc (.cells #[.int .u64 (t0 : Int), .int .u32 (e0 : Int), .int .u32 (m0 : Int), .int .u32 (f0 : Int)] 25)) (.cells #[.int .u64 (t1 : Int), .int .u32 (e1 : Int), .int .u32 (m1 : Int), .int .u32 (f1 : Int)] 25)
  have hb0 : Below w.heap.size w ((w.alloc (.cells #[.int .u64 (t0 : Int), .int .u32 (e0 : Int), .int .u32 (m0 : Int), .int .u32 (f0 : Int)] 25)).alloc (.cells #[.int .u64 (t1 : Int), .int .u32 (e1 : Int), .int .u32 (m1 : Int), .int .u32 (f1 : Int)] 25)) := ((Below.refl _ _).alloc (Nat.le_refl _) _).alloc (by simp) _
  rw [World.size_alloc] at hx1
  have HX0 := Lib.hid hx0
  have HX1 := Lib.hid hx1
  clear hx0 hx1
  go_enter Try.func8, Try.ntmps8
  go_wp2_with fail
  refine (awake7 _).mono ?_
  rintro r w1 ⟨rfl, hb1'⟩
  have hb1 := hb0.trans (hb1'.mono hb0.size)
  have hx0 := blk_below HX0.out hb1' (blk_lt HX0.out)
  have hx1 := blk_below HX1.out hb1' (blk_lt HX1.out)
  obtain ⟨⟨x00, x01, x02, x03⟩, _⟩ := cell4 hx0
  clear hb0 hb1' HX0 HX1
  go_wp2_with fail
  refine (of_any _ t0 e0 m0 f0).mono ?_
  rintro r w2 ⟨rfl, hb2'⟩
  have hb2 := hb1.trans (hb2'.mono hb1.size)
  have hx1 := blk_below hx1 hb2' (blk_lt hx1)
  have hg0 := blk_alloc (heap_alloc_new w2 (.cells #[.int .u64 (t0 : Int), .int .u32 (e0 : Int), .int .u32 (m0 : Int), .int .u32 (f0 : Int)] 29)) (.cells #[.int .u64 (t0 : Int), .int .u32 (e0 : Int), .int .u32 (m0 : Int), .int .u32 (f0 : Int)] 30)
  have hgw0 : w.heap.size ≤ w2.heap.size := hb2.size
  have hb3 := (hb2.alloc hb2.size (.cells #[.int .u64 (t0 : Int), .int .u32 (e0 : Int), .int .u32 (m0 : Int), .int .u32 (f0 : Int)] 29)).alloc (by have := hb2.size; simp; omega) (.cells #[.int .u64 (t0 : Int), .int .u32 (e0 : Int), .int .u32 (m0 : Int), .int .u32 (f0 : Int)] 30)
  have hx1' := blk_alloc (blk_alloc hx1 (.cells #[.int .u64 (t0 : Int), .int .u32 (e0 : Int), .int .u32 (m0 : Int), .int .u32 (f0 : Int)] 29)) (.cells #[.int .u64 (t0 : Int), .int .u32 (e0 : Int), .int .u32 (m0 : Int), .int .u32 (f0 : Int)] 30)
  obtain ⟨⟨x10, x11, x12, x13⟩, _⟩ := cell4 hx1'
  clear hb1 hb2' x00 x01 x02 x03 hx0 hx1 hb2
  go_wp2_with fail
  generalize (w2.alloc (.cells #[.int .u64 (t0 : Int), .int .u32 (e0 : Int), .int .u32 (m0 : Int), .int .u32 (f0 : Int)] 29)).alloc (.cells #[.int .u64 (t0 : Int), .int .u32 (e0 : Int), .int .u32 (m0 : Int), .int .u32 (f0 : Int)] 30) = w3 at *
  generalize w2.heap.size = g0 at *
  refine (of_any _ t1 e1 m1 f1).mono ?_
  rintro r w4 ⟨rfl, hb4'⟩
  have hb4 := hb3.trans (hb4'.mono hb3.size)
  have hg0 := blk_below hg0 hb4' (blk_lt hg0)
  have hne : g0 ≠ w4.heap.size := by have := blk_lt hg0; omega
  have hg0 := blk_alloc (blk_alloc hg0 (.cells #[.int .u64 (t1 : Int), .int .u32 (e1 : Int), .int .u32 (m1 : Int), .int .u32 (f1 : Int)] 29)) (.cells #[.int .u64 (t1 : Int), .int .u32 (e1 : Int), .int .u32 (m1 : Int), .int .u32 (f1 : Int)] 30)
  have hg1 := blk_alloc (heap_alloc_new w4 (.cells #[.int .u64 (t1 : Int), .int .u32 (e1 : Int), .int .u32 (m1 : Int), .int .u32 (f1 : Int)] 29)) (.cells #[.int .u64 (t1 : Int), .int .u32 (e1 : Int), .int .u32 (m1 : Int), .int .u32 (f1 : Int)] 30)
  have hgw1 : w.heap.size ≤ w4.heap.size := hb4.size
  have hb5 := (hb4.alloc hb4.size (.cells #[.int .u64 (t1 : Int), .int .u32 (e1 : Int), .int .u32 (m1 : Int), .int .u32 (f1 : Int)] 29)).alloc (by have := hb4.size; simp; omega) (.cells #[.int .u64 (t1 : Int), .int .u32 (e1 : Int), .int .u32 (m1 : Int), .int .u32 (f1 : Int)] 30)
  clear hb3 hb4' x10 x11 x12 x13 hx1' hb4
  obtain ⟨⟨a00, a01, a02, a03⟩, b00, b01, b02, b03⟩ := cell4 hg0
  go_wp2_with fail
  clear a00 a01 a02 a03 b00 b01 b02 b03
  generalize (w4.alloc (.cells #[.int .u64 (t1 : Int), .int .u32 (e1 : Int), .int .u32 (m1 : Int), .int .u32 (f1 : Int)] 29)).alloc (.cells #[.int .u64 (t1 : Int), .int .u32 (e1 : Int), .int .u32 (m1 : Int), .int .u32 (f1 : Int)] 30) = w5 at *
  generalize w4.heap.size = g1 at *
  refine (mput_e _ t0 e0 m0 f0 S ht0 he0 hm0 hf0).mono ?_
  rintro r w6 ⟨A6, n6, c6, E6, rfl, hb6', hE6⟩
  obtain rfl := hE6.out H0.out
  have hb6 := hb5.trans (hb6'.mono hb5.size)
  have hg1 := blk_below hg1 hb6' (blk_lt hg1)
  obtain ⟨⟨a10, a11, a12, a13⟩, b10, b11, b12, b13⟩ := cell4 hg1
  clear hb5 hb6' hg0 hE6
  go_wp2_with fail
  refine (mput_no _ t1 e1 m1 f1 S ht1 he1 hm1 hf1 HNO.out).mono ?_
  rintro r w7 ⟨rfl, hb7'⟩
  have hb7 := hb6.trans (hb7'.mono hb6.size)
  clear hb6 hb7' a10 a11 a12 a13 b10 b11 b12 b13 hg1
  go_wp2_with fail
  go_ret
  exact ⟨rfl, hb7⟩

set_option maxRecDepth 20000 in
set_option maxHeartbeats 2000000 in
theorem newer_same (w : World) (t0 e0 m0 f0 t1 e1 m1 f1 : Nat) (ht0 : t0 < 18446744073709551616) (he0 : e0 < 4294967296) (hm0 : m0 < 4294967296) (hf0 : f0 < 4294967296) (ht1 : t1 < 18446744073709551616) (he1 : e1 < 4294967296) (hm1 : m1 < 4294967296) (hf1 : f1 < 4294967296) (size : Nat) (h1 : 512 ≤ size) (h2 : size ≤ 4096) (hR0 : MRight t0 e0 m0 f0) (hR1 : MRight t1 e1 m1 f1) (hp : t0 % 2 = t1 % 2) :
    Calls Try.prog 8 #[.agg #[.int .u64 (t0 : Int), .int .u32 (e0 : Int), .int .u32 (m0 : Int), .int .u32 (f0 : Int)], .agg #[.int .u64 (t1 : Int), .int .u32 (e1 : Int), .int .u32 (m1 : Int), .int .u32 (f1 : Int)], .int .i64 (size : Int)] w fun r w' => r = .returned (.bool true) ∧ Below w.heap.size w w' := by
  have HP := Lib.hid hp
  clear hp
  have hx0 := blk_alloc (heap_alloc_new w (.cells #[.int .u64 (t0 : Int), .int .u32 (e0 : Int), .int .u32 (m0 : Int), .int .u32 (f0 : Int)] 25)) (.cells #[.int .u64 (t1 : Int), .int .u32 (e1 : Int), .int .u32 (m1 : Int), .int .u32 (f1 : Int)] 25)
  have hx1 := heap_alloc_new (w.alloc (.cells #[.int .u64 (t0 : Int), .int .u32 (e0 : Int), .int .u32 (m0 : Int), .int .u32 (f0 : Int)] 25)) (.cells #[.int .u64 (t1 : Int), .int .u32 (e1 : Int), .int .u32 (m1 : Int), .int .u32 (f1 : Int)] 25)
  have hb0 : Below w.heap.size w ((w.alloc (.cells #[.int .u64 (t0 : Int), .int .u32 (e0 : Int), .int .u32 (m0 : Int), .int .u32 (f0 : Int)] 25)).alloc (.cells #[.int .u64 (t1 : Int), .int .u32 (e1 : Int), .int .u32 (m1 : Int), .int .u32 (f1 : Int)] 25)) := ((Below.refl _ _).alloc (Nat.le_refl _) _).alloc (by simp) _
  rw [World.size_alloc] at hx1
  have HX0 := Lib.hid hx0
  have HX1 := Lib.hid hx1
  clear hx0 hx1
  go_enter Try.func8, Try.ntmps8
  go_wp2_with fail
  refine (awake7 _).mono ?_
  rintro r w1 ⟨rfl, hb1'⟩
  have hb1 := hb0.trans (hb1'.mono hb0.size)
  have hx0 := blk_below HX0.out hb1' (blk_lt HX0.out)
  have hx1 := blk_below HX1.out hb1' (blk_lt HX1.out)
  obtain ⟨⟨x00, x01, x02, x03⟩, _⟩ := cell4 hx0
  clear hb0 hb1' HX0 HX1
  go_wp2_with fail
  refine (of_any _ t0 e0 m0 f0).mono ?_
  rintro r w2 ⟨rfl, hb2'⟩
  have hb2 := hb1.trans (hb2'.mono hb1.size)
  have hx1 := blk_below hx1 hb2' (blk_lt hx1)
  have hg0 := blk_alloc (heap_alloc_new w2 (.cells #[.int .u64 (t0 : Int), .int .u32 (e0 : Int), .int .u32 (m0 : Int), .int .u32 (f0 : Int)] 29)) (.cells #[.int .u64 (t0 : Int), .int .u32 (e0 : Int), .int .u32 (m0 : Int), .int .u32 (f0 : Int)] 30)
  have hgw0 : w.heap.size ≤ w2.heap.size := hb2.size
  have hb3 := (hb2.alloc hb2.size (.cells #[.int .u64 (t0 : Int), .int .u32 (e0 : Int), .int .u32 (m0 : Int), .int .u32 (f0 : Int)] 29)).alloc (by have := hb2.size; simp; omega) (.cells #[.int .u64 (t0 : Int), .int .u32 (e0 : Int), .int .u32 (m0 : Int), .int .u32 (f0 : Int)] 30)
  have hx1' := blk_alloc (blk_alloc hx1 (.cells #[.int .u64 (t0 : Int), .int .u32 (e0 : Int), .int .u32 (m0 : Int), .int .u32 (f0 : Int)] 29)) (.cells #[.int .u64 (t0 : Int), .int .u32 (e0 : Int), .int .u32 (m0 : Int), .int .u32 (f0 : Int)] 30)
  obtain ⟨⟨x10, x11, x12, x13⟩, _⟩ := cell4 hx1'
  clear hb1 hb2' x00 x01 x02 x03 hx0 hx1 hb2
  go_wp2_with fail
  generalize (w2.alloc (.cells #[.int .u64 (t0 : Int), .int .u32 (e0 : Int), .int .u32 (m0 : Int), .int .u32 (f0 : Int)] 29)).alloc (.cells #[.int .u64 (t0 : Int), .int .u32 (e0 : Int), .int .u32 (m0 : Int), .int .u32 (f0 : Int)] 30) = w3 at *
  generalize w2.heap.size = g0 at *
  refine (of_any _ t1 e1 m1 f1).mono ?_
  rintro r w4 ⟨rfl, hb4'⟩
  have hb4 := hb3.trans (hb4'.mono hb3.size)
  have hg0 := blk_below hg0 hb4' (blk_lt hg0)
  have hne : g0 ≠ w4.heap.size := by have := blk_lt hg0; omega
  have hg0 := blk_alloc (blk_alloc hg0 (.cells #[.int .u64 (t1 : Int), .int .u32 (e1 : Int), .int .u32 (m1 : Int), .int .u32 (f1 : Int)] 29)) (.cells #[.int .u64 (t1 : Int), .int .u32 (e1 : Int), .int .u32 (m1 : Int), .int .u32 (f1 : Int)] 30)
  have hg1 := blk_alloc (heap_alloc_new w4 (.cells #[.int .u64 (t1 : Int), .int .u32 (e1 : Int), .int .u32 (m1 : Int), .int .u32 (f1 : Int)] 29)) (.cells #[.int .u64 (t1 : Int), .int .u32 (e1 : Int), .int .u32 (m1 : Int), .int .u32 (f1 : Int)] 30)
  have hgw1 : w.heap.size ≤ w4.heap.size := hb4.size
  have hb5 := (hb4.alloc hb4.size (.cells #[.int .u64 (t1 : Int), .int .u32 (e1 : Int), .int .u32 (m1 : Int), .int .u32 (f1 : Int)] 29)).alloc (by have := hb4.size; simp; omega) (.cells #[.int .u64 (t1 : Int), .int .u32 (e1 : Int), .int .u32 (m1 : Int), .int .u32 (f1 : Int)] 30)
  clear hb3 hb4' x10 x11 x12 x13 hx1' hb4
  obtain ⟨⟨a00, a01, a02, a03⟩, b00, b01, b02, b03⟩ := cell4 hg0
  go_wp2_with fail
  clear a00 a01 a02 a03 b00 b01 b02 b03
  generalize (w4.alloc (.cells #[.int .u64 (t1 : Int), .int .u32 (e1 : Int), .int .u32 (m1 : Int), .int .u32 (f1 : Int)] 29)).alloc (.cells #[.int .u64 (t1 : Int), .int .u32 (e1 : Int), .int .u32 (m1 : Int), .int .u32 (f1 : Int)] 30) = w5 at *
  generalize w4.heap.size = g1 at *
  refine (mput_ok _ t0 e0 m0 f0 size ht0 he0 hm0 hf0 hR0 h1 h2).mono ?_
  rintro r w6 ⟨p0, rfl, hp0, hP0, hb6'⟩
  have hgp0 : g0 < p0 ∧ g1 < p0 := ⟨Nat.lt_of_lt_of_le (blk_lt hg0) hp0, Nat.lt_of_lt_of_le (blk_lt hg1) hp0⟩
  have hb6 := hb5.trans (hb6'.mono hb5.size)
  have hg0 := blk_below hg0 hb6' (blk_lt hg0)
  have hg1 := blk_below hg1 hb6' (blk_lt hg1)
  obtain ⟨⟨a10, a11, a12, a13⟩, b10, b11, b12, b13⟩ := cell4 hg1
  have hpw0 : w.heap.size ≤ p0 := Nat.le_trans hb5.size hp0
  clear hb5 hb6'
  go_wp2_with fail
  refine (mput_ok _ t1 e1 m1 f1 size ht1 he1 hm1 hf1 hR1 h1 h2).mono ?_
  rintro r w7 ⟨p1, rfl, hp1, hP1, hb7'⟩
  have hgp1 : g0 < p1 ∧ g1 < p1 := ⟨Nat.lt_of_lt_of_le (blk_lt hg0) hp1, Nat.lt_of_lt_of_le (blk_lt hg1) hp1⟩
  have hb7 := hb6.trans (hb7'.mono hb6.size)
  have hg0 := blk_below hg0 hb7' (blk_lt hg0)
  have hg1 := blk_below hg1 hb7' (blk_lt hg1)
  have hP0 := hP0.below hb7' hP0.lt
  have hpw1 : w.heap.size ≤ p1 := Nat.le_trans hb6.size hp1
  clear hb6 hb7' a10 a11 a12 a13 b10 b11 b12 b13
  obtain ⟨⟨a00, a01, a02, a03⟩, b00, b01, b02, b03⟩ := cell4 hg0
  obtain ⟨⟨a10, a11, a12, a13⟩, b10, b11, b12, b13⟩ := cell4 hg1
  have hq : (((t0 : Int) % 2) == ((t1 : Int) % 2)) = true := by have := HP.out; simp; omega
  go_wp2_with fail
  go_ret
  exact ⟨rfl, hb7⟩

set_option maxRecDepth 20000 in
set_option maxHeartbeats 2000000 in
theorem newer_s1 (w : World) (t0 e0 m0 f0 t1 e1 m1 f1 : Nat) (ht0 : t0 < 18446744073709551616) (he0 : e0 < 4294967296) (hm0 : m0 < 4294967296) (hf0 : f0 < 4294967296) (ht1 : t1 < 18446744073709551616) (he1 : e1 < 4294967296) (hm1 : m1 < 4294967296) (hf1 : f1 < 4294967296) (size : Nat) (h1 : 512 ≤ size) (h2 : size ≤ 4096) (hR0 : MRight t0 e0 m0 f0) (hR1 : MRight t1 e1 m1 f1) (hp0 : t0 % 2 = 0) (hp1 : t1 % 2 = 1) (hlt : t0 < t1) :
    Calls Try.prog 8 #[.agg #[.int .u64 (t0 : Int), .int .u32 (e0 : Int), .int .u32 (m0 : Int), .int .u32 (f0 : Int)], .agg #[.int .u64 (t1 : Int), .int .u32 (e1 : Int), .int .u32 (m1 : Int), .int .u32 (f1 : Int)], .int .i64 (size : Int)] w fun r w' => r = .returned (.bool true) ∧ Below w.heap.size w w' := by
  have HP0 := Lib.hid hp0
  have HP1 := Lib.hid hp1
  have CH : mChosen (mPut t0 e0 m0 f0 size) (mPut t1 e1 m1 f1 size) = (t1, e1, m1, f1) := by
    rw [chosen_right t0 e0 m0 f0 t1 e1 m1 f1 size ht0 he0 hm0 hf0 ht1 he1 hm1 hf1 hR0 hR1 h1 h2 hp0 hp1]
    first | exact if_pos (by omega) | exact if_neg (by omega)
  have CW := chosen_wrong t0 e0 m0 f0 t1 e1 m1 f1 size ht0 he0 hm0 hf0 ht1 he1 hm1 hf1 hR0 hR1 h1 h2 hp0 hp1
  have CHH := Lib.hid CH
  have CWH := Lib.hid CW
  have tpos : ¬ t1 = 0 := by have := hR1.2.2.1; omega
  have TP := Lib.hid tpos
  have L0 := Lib.hid (mPut_length t0 e0 m0 f0 size (by omega))
  have L1 := Lib.hid (mPut_length t1 e1 m1 f1 size (by omega))
  clear hp0 hp1 CH CW tpos
  have hx0 := blk_alloc (heap_alloc_new w (.cells #[.int .u64 (t0 : Int), .int .u32 (e0 : Int), .int .u32 (m0 : Int), .int .u32 (f0 : Int)] 25)) (.cells #[.int .u64 (t1 : Int), .int .u32 (e1 : Int), .int .u32 (m1 : Int), .int .u32 (f1 : Int)] 25)
  have hx1 := heap_alloc_new (w.alloc (.cells #[.int .u64 (t0 : Int), .int .u32 (e0 : Int), .int .u32 (m0 : Int), .int .u32 (f0 : Int)] 25)) (.cells #[.int .u64 (t1 : Int), .int .u32 (e1 : Int), .int .u32 (m1 : Int), .int .u32 (f1 : Int)] 25)
  have hb0 : Below w.heap.size w ((w.alloc (.cells #[.int .u64 (t0 : Int), .int .u32 (e0 : Int), .int .u32 (m0 : Int), .int .u32 (f0 : Int)] 25)).alloc (.cells #[.int .u64 (t1 : Int), .int .u32 (e1 : Int), .int .u32 (m1 : Int), .int .u32 (f1 : Int)] 25)) := ((Below.refl _ _).alloc (Nat.le_refl _) _).alloc (by simp) _
  rw [World.size_alloc] at hx1
  have HX0 := Lib.hid hx0
  have HX1 := Lib.hid hx1
  clear hx0 hx1
  go_enter Try.func8, Try.ntmps8
  go_wp2_with fail
  refine (awake7 _).mono ?_
  rintro r w1 ⟨rfl, hb1'⟩
  have hb1 := hb0.trans (hb1'.mono hb0.size)
  have hx0 := blk_below HX0.out hb1' (blk_lt HX0.out)
  have hx1 := blk_below HX1.out hb1' (blk_lt HX1.out)
  obtain ⟨⟨x00, x01, x02, x03⟩, _⟩ := cell4 hx0
  clear hb0 hb1' HX0 HX1
  go_wp2_with fail
  refine (of_any _ t0 e0 m0 f0).mono ?_
  rintro r w2 ⟨rfl, hb2'⟩
  have hb2 := hb1.trans (hb2'.mono hb1.size)
  have hx1 := blk_below hx1 hb2' (blk_lt hx1)
  have hg0 := blk_alloc (heap_alloc_new w2 (.cells #[.int .u64 (t0 : Int), .int .u32 (e0 : Int), .int .u32 (m0 : Int), .int .u32 (f0 : Int)] 29)) (.cells #[.int .u64 (t0 : Int), .int .u32 (e0 : Int), .int .u32 (m0 : Int), .int .u32 (f0 : Int)] 30)
  have hgw0 : w.heap.size ≤ w2.heap.size := hb2.size
  have hb3 := (hb2.alloc hb2.size (.cells #[.int .u64 (t0 : Int), .int .u32 (e0 : Int), .int .u32 (m0 : Int), .int .u32 (f0 : Int)] 29)).alloc (by have := hb2.size; simp; omega) (.cells #[.int .u64 (t0 : Int), .int .u32 (e0 : Int), .int .u32 (m0 : Int), .int .u32 (f0 : Int)] 30)
  have hx1' := blk_alloc (blk_alloc hx1 (.cells #[.int .u64 (t0 : Int), .int .u32 (e0 : Int), .int .u32 (m0 : Int), .int .u32 (f0 : Int)] 29)) (.cells #[.int .u64 (t0 : Int), .int .u32 (e0 : Int), .int .u32 (m0 : Int), .int .u32 (f0 : Int)] 30)
  obtain ⟨⟨x10, x11, x12, x13⟩, _⟩ := cell4 hx1'
  clear hb1 hb2' x00 x01 x02 x03 hx0 hx1 hb2
  go_wp2_with fail
  generalize (w2.alloc (.cells #[.int .u64 (t0 : Int), .int .u32 (e0 : Int), .int .u32 (m0 : Int), .int .u32 (f0 : Int)] 29)).alloc (.cells #[.int .u64 (t0 : Int), .int .u32 (e0 : Int), .int .u32 (m0 : Int), .int .u32 (f0 : Int)] 30) = w3 at *
  generalize w2.heap.size = g0 at *
  refine (of_any _ t1 e1 m1 f1).mono ?_
  rintro r w4 ⟨rfl, hb4'⟩
  have hb4 := hb3.trans (hb4'.mono hb3.size)
  have hg0 := blk_below hg0 hb4' (blk_lt hg0)
  have hne : g0 ≠ w4.heap.size := by have := blk_lt hg0; omega
  have hg0 := blk_alloc (blk_alloc hg0 (.cells #[.int .u64 (t1 : Int), .int .u32 (e1 : Int), .int .u32 (m1 : Int), .int .u32 (f1 : Int)] 29)) (.cells #[.int .u64 (t1 : Int), .int .u32 (e1 : Int), .int .u32 (m1 : Int), .int .u32 (f1 : Int)] 30)
  have hg1 := blk_alloc (heap_alloc_new w4 (.cells #[.int .u64 (t1 : Int), .int .u32 (e1 : Int), .int .u32 (m1 : Int), .int .u32 (f1 : Int)] 29)) (.cells #[.int .u64 (t1 : Int), .int .u32 (e1 : Int), .int .u32 (m1 : Int), .int .u32 (f1 : Int)] 30)
  have hgw1 : w.heap.size ≤ w4.heap.size := hb4.size
  have hb5 := (hb4.alloc hb4.size (.cells #[.int .u64 (t1 : Int), .int .u32 (e1 : Int), .int .u32 (m1 : Int), .int .u32 (f1 : Int)] 29)).alloc (by have := hb4.size; simp; omega) (.cells #[.int .u64 (t1 : Int), .int .u32 (e1 : Int), .int .u32 (m1 : Int), .int .u32 (f1 : Int)] 30)
  clear hb3 hb4' x10 x11 x12 x13 hx1' hb4
  obtain ⟨⟨a00, a01, a02, a03⟩, b00, b01, b02, b03⟩ := cell4 hg0
  go_wp2_with fail
  clear a00 a01 a02 a03 b00 b01 b02 b03
  generalize (w4.alloc (.cells #[.int .u64 (t1 : Int), .int .u32 (e1 : Int), .int .u32 (m1 : Int), .int .u32 (f1 : Int)] 29)).alloc (.cells #[.int .u64 (t1 : Int), .int .u32 (e1 : Int), .int .u32 (m1 : Int), .int .u32 (f1 : Int)] 30) = w5 at *
  generalize w4.heap.size = g1 at *
  refine (mput_ok _ t0 e0 m0 f0 size ht0 he0 hm0 hf0 hR0 h1 h2).mono ?_
  rintro r w6 ⟨p0, rfl, hp0, hP0, hb6'⟩
  have hgp0 : g0 < p0 ∧ g1 < p0 := ⟨Nat.lt_of_lt_of_le (blk_lt hg0) hp0, Nat.lt_of_lt_of_le (blk_lt hg1) hp0⟩
  have hb6 := hb5.trans (hb6'.mono hb5.size)
  have hg0 := blk_below hg0 hb6' (blk_lt hg0)
  have hg1 := blk_below hg1 hb6' (blk_lt hg1)
  obtain ⟨⟨a10, a11, a12, a13⟩, b10, b11, b12, b13⟩ := cell4 hg1
  have hpw0 : w.heap.size ≤ p0 := Nat.le_trans hb5.size hp0
  clear hb5 hb6'
  go_wp2_with fail
  refine (mput_ok _ t1 e1 m1 f1 size ht1 he1 hm1 hf1 hR1 h1 h2).mono ?_
  rintro r w7 ⟨p1, rfl, hp1, hP1, hb7'⟩
  have hgp1 : g0 < p1 ∧ g1 < p1 := ⟨Nat.lt_of_lt_of_le (blk_lt hg0) hp1, Nat.lt_of_lt_of_le (blk_lt hg1) hp1⟩
  have hb7 := hb6.trans (hb7'.mono hb6.size)
  have hg0 := blk_below hg0 hb7' (blk_lt hg0)
  have hg1 := blk_below hg1 hb7' (blk_lt hg1)
  have hP0 := hP0.below hb7' hP0.lt
  have hpw1 : w.heap.size ≤ p1 := Nat.le_trans hb6.size hp1
  clear hb6 hb7' a10 a11 a12 a13 b10 b11 b12 b13
  obtain ⟨⟨a00, a01, a02, a03⟩, b00, b01, b02, b03⟩ := cell4 hg0
  obtain ⟨⟨a10, a11, a12, a13⟩, b10, b11, b12, b13⟩ := cell4 hg1
  have hq : (((t0 : Int) % 2) == ((t1 : Int) % 2)) = false := by have := HP0.out; have := HP1.out; simp; omega
  have hq1 : (((t0 : Int) % 2) == 1) = false := by have := HP0.out; simp; omega
  have d1 : decide ((t1 : Int) > (t0 : Int)) = true := by simp; omega
  go_wp2_with fail
  refine (mchoose_is _ _ _ _ _ _ _ _ _ t1 e1 m1 f1 (hP0.slN L0.out (by omega)) (hP1.slN L1.out (by omega)) (by omega) (by omega) CHH TP).mono ?_
  rintro r w8 ⟨rfl, hb8'⟩
  have hb8 := hb7.trans (hb8'.mono hb7.size)
  have hg0 := blk_below hg0 hb8' (blk_lt hg0)
  have hg1 := blk_below hg1 hb8' (blk_lt hg1)
  have hP0 := hP0.below hb8' hP0.lt
  have hP1 := hP1.below hb8' hP1.lt
  have hk := heap_alloc_new w8 (.cells #[.int .u64 (t1 : Int), .int .u32 (e1 : Int), .int .u32 (m1 : Int), .int .u32 (f1 : Int)] 29)
  have hb9 := hb8.alloc hb8.size (.cells #[.int .u64 (t1 : Int), .int .u32 (e1 : Int), .int .u32 (m1 : Int), .int .u32 (f1 : Int)] 29)
  have hg0 := blk_alloc hg0 (.cells #[.int .u64 (t1 : Int), .int .u32 (e1 : Int), .int .u32 (m1 : Int), .int .u32 (f1 : Int)] 29)
  have hg1 := blk_alloc hg1 (.cells #[.int .u64 (t1 : Int), .int .u32 (e1 : Int), .int .u32 (m1 : Int), .int .u32 (f1 : Int)] 29)
  have hP0 : RowB _ _ _ := blk_alloc hP0 (.cells #[.int .u64 (t1 : Int), .int .u32 (e1 : Int), .int .u32 (m1 : Int), .int .u32 (f1 : Int)] 29)
  have hP1 : RowB _ _ _ := blk_alloc hP1 (.cells #[.int .u64 (t1 : Int), .int .u32 (e1 : Int), .int .u32 (m1 : Int), .int .u32 (f1 : Int)] 29)
  clear hb7 hb8 hb8'
  go_wp2_with fail
  generalize w8.alloc (.cells #[.int .u64 (t1 : Int), .int .u32 (e1 : Int), .int .u32 (m1 : Int), .int .u32 (f1 : Int)] 29) = w9 at *
  generalize w8.heap.size = k at *
  refine (mchoose_none _ _ _ _ _ _ _ _ _ (hP1.slN L1.out (by omega)) (hP0.slN L0.out (by omega)) (by omega) (by omega) CWH).mono ?_
  rintro r w10 ⟨rfl, hb10'⟩
  have hb10 := hb9.trans (hb10'.mono hb9.size)
  have hg0 := blk_below hg0 hb10' (blk_lt hg0)
  have hg1 := blk_below hg1 hb10' (blk_lt hg1)
  have hk := blk_below hk hb10' (blk_lt hk)
  clear hb9 hb10' hP0 hP1
  have hbz := (hb10.alloc hb10.size (.cells #[.int .u64 0, .int .u32 0, .int .u32 0, .int .u32 0] 29)).alloc (by have := hb10.size; simp; omega) (.cells #[.int .u64 (t1 : Int), .int .u32 (e1 : Int), .int .u32 (m1 : Int), .int .u32 (f1 : Int)] 29)
  have hg0 := blk_alloc hg0 (.cells #[.int .u64 0, .int .u32 0, .int .u32 0, .int .u32 0] 29)
  have hg1 := blk_alloc hg1 (.cells #[.int .u64 0, .int .u32 0, .int .u32 0, .int .u32 0] 29)
  have hk := blk_alloc hk (.cells #[.int .u64 0, .int .u32 0, .int .u32 0, .int .u32 0] 29)
  have hsz : (w10.alloc (.cells #[.int .u64 0, .int .u32 0, .int .u32 0, .int .u32 0] 29)).heap.size = w10.heap.size + 1 := World.size_alloc _ _
  have hu1 := heap_alloc_new (w10.alloc (.cells #[.int .u64 0, .int .u32 0, .int .u32 0, .int .u32 0] 29)) (.cells #[.int .u64 (t0 : Int), .int .u32 (e0 : Int), .int .u32 (m0 : Int), .int .u32 (f0 : Int)] 29)
  have hu2 := heap_alloc_new (w10.alloc (.cells #[.int .u64 0, .int .u32 0, .int .u32 0, .int .u32 0] 29)) (.cells #[.int .u64 (t1 : Int), .int .u32 (e1 : Int), .int .u32 (m1 : Int), .int .u32 (f1 : Int)] 29)
  rw [hsz] at hu1 hu2
  clear hsz hb10
  obtain ⟨⟨u00, u01, u02, u03⟩, v00, v01, v02, v03⟩ := cell4 hu1
  obtain ⟨⟨u10, u11, u12, u13⟩, v10, v11, v12, v13⟩ := cell4 hu2
  obtain ⟨⟨a00, a01, a02, a03⟩, _⟩ := cell4 hg0
  obtain ⟨⟨a10, a11, a12, a13⟩, _⟩ := cell4 hg1
  obtain ⟨⟨c00, c01, c02, c03⟩, _⟩ := cell4 (blk_alloc hg0 (.cells #[.int .u64 (t0 : Int), .int .u32 (e0 : Int), .int .u32 (m0 : Int), .int .u32 (f0 : Int)] 29))
  obtain ⟨⟨c10, c11, c12, c13⟩, _⟩ := cell4 (blk_alloc hg1 (.cells #[.int .u64 (t0 : Int), .int .u32 (e0 : Int), .int .u32 (m0 : Int), .int .u32 (f0 : Int)] 29))
  obtain ⟨⟨k00, k01, k02, k03⟩, _⟩ := cell4 (blk_alloc hk (.cells #[.int .u64 (t1 : Int), .int .u32 (e1 : Int), .int .u32 (m1 : Int), .int .u32 (f1 : Int)] 29))
  clear hg0 hg1 hk hu1 hu2
  go_wp2_with fail
  go_ret
  exact ⟨rfl, hbz⟩

set_option maxRecDepth 20000 in
set_option maxHeartbeats 2000000 in
theorem newer_s0 (w : World) (t0 e0 m0 f0 t1 e1 m1 f1 : Nat) (ht0 : t0 < 18446744073709551616) (he0 : e0 < 4294967296) (hm0 : m0 < 4294967296) (hf0 : f0 < 4294967296) (ht1 : t1 < 18446744073709551616) (he1 : e1 < 4294967296) (hm1 : m1 < 4294967296) (hf1 : f1 < 4294967296) (size : Nat) (h1 : 512 ≤ size) (h2 : size ≤ 4096) (hR0 : MRight t0 e0 m0 f0) (hR1 : MRight t1 e1 m1 f1) (hp0 : t0 % 2 = 0) (hp1 : t1 % 2 = 1) (hlt : ¬ t0 < t1) :
    Calls Try.prog 8 #[.agg #[.int .u64 (t0 : Int), .int .u32 (e0 : Int), .int .u32 (m0 : Int), .int .u32 (f0 : Int)], .agg #[.int .u64 (t1 : Int), .int .u32 (e1 : Int), .int .u32 (m1 : Int), .int .u32 (f1 : Int)], .int .i64 (size : Int)] w fun r w' => r = .returned (.bool true) ∧ Below w.heap.size w w' := by
  have HP0 := Lib.hid hp0
  have HP1 := Lib.hid hp1
  have CH : mChosen (mPut t0 e0 m0 f0 size) (mPut t1 e1 m1 f1 size) = (t0, e0, m0, f0) := by
    rw [chosen_right t0 e0 m0 f0 t1 e1 m1 f1 size ht0 he0 hm0 hf0 ht1 he1 hm1 hf1 hR0 hR1 h1 h2 hp0 hp1]
    first | exact if_pos (by omega) | exact if_neg (by omega)
  have CW := chosen_wrong t0 e0 m0 f0 t1 e1 m1 f1 size ht0 he0 hm0 hf0 ht1 he1 hm1 hf1 hR0 hR1 h1 h2 hp0 hp1
  have CHH := Lib.hid CH
  have CWH := Lib.hid CW
  have tpos : ¬ t0 = 0 := by have := hR0.2.2.1; omega
  have TP := Lib.hid tpos
  have L0 := Lib.hid (mPut_length t0 e0 m0 f0 size (by omega))
  have L1 := Lib.hid (mPut_length t1 e1 m1 f1 size (by omega))
  clear hp0 hp1 CH CW tpos
  have hx0 := blk_alloc (heap_alloc_new w (.cells #[.int .u64 (t0 : Int), .int .u32 (e0 : Int), .int .u32 (m0 : Int), .int .u32 (f0 : Int)] 25)) (.cells #[.int .u64 (t1 : Int), .int .u32 (e1 : Int), .int .u32 (m1 : Int), .int .u32 (f1 : Int)] 25)
  have hx1 := heap_alloc_new (w.alloc (.cells #[.int .u64 (t0 : Int), .int .u32 (e0 : Int), .int .u32 (m0 : Int), .int .u32 (f0 : Int)] 25)) (.cells #[.int .u64 (t1 : Int), .int .u32 (e1 : Int), .int .u32 (m1 : Int), .int .u32 (f1 : Int)] 25)
  have hb0 : Below w.heap.size w ((w.alloc (.cells #[.int .u64 (t0 : Int), .int .u32 (e0 : Int), .int .u32 (m0 : Int), .int .u32 (f0 : Int)] 25)).alloc (.cells #[.int .u64 (t1 : Int), .int .u32 (e1 : Int), .int .u32 (m1 : Int), .int .u32 (f1 : Int)] 25)) := ((Below.refl _ _).alloc (Nat.le_refl _) _).alloc (by simp) _
  rw [World.size_alloc] at hx1
  have HX0 := Lib.hid hx0
  have HX1 := Lib.hid hx1
  clear hx0 hx1
  go_enter Try.func8, Try.ntmps8
  go_wp2_with fail
  refine (awake7 _).mono ?_
  rintro r w1 ⟨rfl, hb1'⟩
  have hb1 := hb0.trans (hb1'.mono hb0.size)
  have hx0 := blk_below HX0.out hb1' (blk_lt HX0.out)
  have hx1 := blk_below HX1.out hb1' (blk_lt HX1.out)
  obtain ⟨⟨x00, x01, x02, x03⟩, _⟩ := cell4 hx0
  clear hb0 hb1' HX0 HX1
  go_wp2_with fail
  refine (of_any _ t0 e0 m0 f0).mono ?_
  rintro r w2 ⟨rfl, hb2'⟩
  have hb2 := hb1.trans (hb2'.mono hb1.size)
  have hx1 := blk_below hx1 hb2' (blk_lt hx1)
  have hg0 := blk_alloc (heap_alloc_new w2 (.cells #[.int .u64 (t0 : Int), .int .u32 (e0 : Int), .int .u32 (m0 : Int), .int .u32 (f0 : Int)] 29)) (.cells #[.int .u64 (t0 : Int), .int .u32 (e0 : Int), .int .u32 (m0 : Int), .int .u32 (f0 : Int)] 30)
  have hgw0 : w.heap.size ≤ w2.heap.size := hb2.size
  have hb3 := (hb2.alloc hb2.size (.cells #[.int .u64 (t0 : Int), .int .u32 (e0 : Int), .int .u32 (m0 : Int), .int .u32 (f0 : Int)] 29)).alloc (by have := hb2.size; simp; omega) (.cells #[.int .u64 (t0 : Int), .int .u32 (e0 : Int), .int .u32 (m0 : Int), .int .u32 (f0 : Int)] 30)
  have hx1' := blk_alloc (blk_alloc hx1 (.cells #[.int .u64 (t0 : Int), .int .u32 (e0 : Int), .int .u32 (m0 : Int), .int .u32 (f0 : Int)] 29)) (.cells #[.int .u64 (t0 : Int), .int .u32 (e0 : Int), .int .u32 (m0 : Int), .int .u32 (f0 : Int)] 30)
  obtain ⟨⟨x10, x11, x12, x13⟩, _⟩ := cell4 hx1'
  clear hb1 hb2' x00 x01 x02 x03 hx0 hx1 hb2
  go_wp2_with fail
  generalize (w2.alloc (.cells #[.int .u64 (t0 : Int), .int .u32 (e0 : Int), .int .u32 (m0 : Int), .int .u32 (f0 : Int)] 29)).alloc (.cells #[.int .u64 (t0 : Int), .int .u32 (e0 : Int), .int .u32 (m0 : Int), .int .u32 (f0 : Int)] 30) = w3 at *
  generalize w2.heap.size = g0 at *
  refine (of_any _ t1 e1 m1 f1).mono ?_
  rintro r w4 ⟨rfl, hb4'⟩
  have hb4 := hb3.trans (hb4'.mono hb3.size)
  have hg0 := blk_below hg0 hb4' (blk_lt hg0)
  have hne : g0 ≠ w4.heap.size := by have := blk_lt hg0; omega
  have hg0 := blk_alloc (blk_alloc hg0 (.cells #[.int .u64 (t1 : Int), .int .u32 (e1 : Int), .int .u32 (m1 : Int), .int .u32 (f1 : Int)] 29)) (.cells #[.int .u64 (t1 : Int), .int .u32 (e1 : Int), .int .u32 (m1 : Int), .int .u32 (f1 : Int)] 30)
  have hg1 := blk_alloc (heap_alloc_new w4 (.cells #[.int .u64 (t1 : Int), .int .u32 (e1 : Int), .int .u32 (m1 : Int), .int .u32 (f1 : Int)] 29)) (.cells #[.int .u64 (t1 : Int), .int .u32 (e1 : Int), .int .u32 (m1 : Int), .int .u32 (f1 : Int)] 30)
  have hgw1 : w.heap.size ≤ w4.heap.size := hb4.size
  have hb5 := (hb4.alloc hb4.size (.cells #[.int .u64 (t1 : Int), .int .u32 (e1 : Int), .int .u32 (m1 : Int), .int .u32 (f1 : Int)] 29)).alloc (by have := hb4.size; simp; omega) (.cells #[.int .u64 (t1 : Int), .int .u32 (e1 : Int), .int .u32 (m1 : Int), .int .u32 (f1 : Int)] 30)
  clear hb3 hb4' x10 x11 x12 x13 hx1' hb4
  obtain ⟨⟨a00, a01, a02, a03⟩, b00, b01, b02, b03⟩ := cell4 hg0
  go_wp2_with fail
  clear a00 a01 a02 a03 b00 b01 b02 b03
  generalize (w4.alloc (.cells #[.int .u64 (t1 : Int), .int .u32 (e1 : Int), .int .u32 (m1 : Int), .int .u32 (f1 : Int)] 29)).alloc (.cells #[.int .u64 (t1 : Int), .int .u32 (e1 : Int), .int .u32 (m1 : Int), .int .u32 (f1 : Int)] 30) = w5 at *
  generalize w4.heap.size = g1 at *
  refine (mput_ok _ t0 e0 m0 f0 size ht0 he0 hm0 hf0 hR0 h1 h2).mono ?_
  rintro r w6 ⟨p0, rfl, hp0, hP0, hb6'⟩
  have hgp0 : g0 < p0 ∧ g1 < p0 := ⟨Nat.lt_of_lt_of_le (blk_lt hg0) hp0, Nat.lt_of_lt_of_le (blk_lt hg1) hp0⟩
  have hb6 := hb5.trans (hb6'.mono hb5.size)
  have hg0 := blk_below hg0 hb6' (blk_lt hg0)
  have hg1 := blk_below hg1 hb6' (blk_lt hg1)
  obtain ⟨⟨a10, a11, a12, a13⟩, b10, b11, b12, b13⟩ := cell4 hg1
  have hpw0 : w.heap.size ≤ p0 := Nat.le_trans hb5.size hp0
  clear hb5 hb6'
  go_wp2_with fail
  refine (mput_ok _ t1 e1 m1 f1 size ht1 he1 hm1 hf1 hR1 h1 h2).mono ?_
  rintro r w7 ⟨p1, rfl, hp1, hP1, hb7'⟩
  have hgp1 : g0 < p1 ∧ g1 < p1 := ⟨Nat.lt_of_lt_of_le (blk_lt hg0) hp1, Nat.lt_of_lt_of_le (blk_lt hg1) hp1⟩
  have hb7 := hb6.trans (hb7'.mono hb6.size)
  have hg0 := blk_below hg0 hb7' (blk_lt hg0)
  have hg1 := blk_below hg1 hb7' (blk_lt hg1)
  have hP0 := hP0.below hb7' hP0.lt
  have hpw1 : w.heap.size ≤ p1 := Nat.le_trans hb6.size hp1
  clear hb6 hb7' a10 a11 a12 a13 b10 b11 b12 b13
  obtain ⟨⟨a00, a01, a02, a03⟩, b00, b01, b02, b03⟩ := cell4 hg0
  obtain ⟨⟨a10, a11, a12, a13⟩, b10, b11, b12, b13⟩ := cell4 hg1
  have hq : (((t0 : Int) % 2) == ((t1 : Int) % 2)) = false := by have := HP0.out; have := HP1.out; simp; omega
  have hq1 : (((t0 : Int) % 2) == 1) = false := by have := HP0.out; simp; omega
  have d1 : decide ((t1 : Int) > (t0 : Int)) = false := by simp; omega
  go_wp2_with fail
  refine (mchoose_is _ _ _ _ _ _ _ _ _ t0 e0 m0 f0 (hP0.slN L0.out (by omega)) (hP1.slN L1.out (by omega)) (by omega) (by omega) CHH TP).mono ?_
  rintro r w8 ⟨rfl, hb8'⟩
  have hb8 := hb7.trans (hb8'.mono hb7.size)
  have hg0 := blk_below hg0 hb8' (blk_lt hg0)
  have hg1 := blk_below hg1 hb8' (blk_lt hg1)
  have hP0 := hP0.below hb8' hP0.lt
  have hP1 := hP1.below hb8' hP1.lt
  have hk := heap_alloc_new w8 (.cells #[.int .u64 (t0 : Int), .int .u32 (e0 : Int), .int .u32 (m0 : Int), .int .u32 (f0 : Int)] 29)
  have hb9 := hb8.alloc hb8.size (.cells #[.int .u64 (t0 : Int), .int .u32 (e0 : Int), .int .u32 (m0 : Int), .int .u32 (f0 : Int)] 29)
  have hg0 := blk_alloc hg0 (.cells #[.int .u64 (t0 : Int), .int .u32 (e0 : Int), .int .u32 (m0 : Int), .int .u32 (f0 : Int)] 29)
  have hg1 := blk_alloc hg1 (.cells #[.int .u64 (t0 : Int), .int .u32 (e0 : Int), .int .u32 (m0 : Int), .int .u32 (f0 : Int)] 29)
  have hP0 : RowB _ _ _ := blk_alloc hP0 (.cells #[.int .u64 (t0 : Int), .int .u32 (e0 : Int), .int .u32 (m0 : Int), .int .u32 (f0 : Int)] 29)
  have hP1 : RowB _ _ _ := blk_alloc hP1 (.cells #[.int .u64 (t0 : Int), .int .u32 (e0 : Int), .int .u32 (m0 : Int), .int .u32 (f0 : Int)] 29)
  clear hb7 hb8 hb8'
  go_wp2_with fail
  generalize w8.alloc (.cells #[.int .u64 (t0 : Int), .int .u32 (e0 : Int), .int .u32 (m0 : Int), .int .u32 (f0 : Int)] 29) = w9 at *
  generalize w8.heap.size = k at *
  refine (mchoose_none _ _ _ _ _ _ _ _ _ (hP1.slN L1.out (by omega)) (hP0.slN L0.out (by omega)) (by omega) (by omega) CWH).mono ?_
  rintro r w10 ⟨rfl, hb10'⟩
  have hb10 := hb9.trans (hb10'.mono hb9.size)
  have hg0 := blk_below hg0 hb10' (blk_lt hg0)
  have hg1 := blk_below hg1 hb10' (blk_lt hg1)
  have hk := blk_below hk hb10' (blk_lt hk)
  clear hb9 hb10' hP0 hP1
  have hbz := (hb10.alloc hb10.size (.cells #[.int .u64 0, .int .u32 0, .int .u32 0, .int .u32 0] 29)).alloc (by have := hb10.size; simp; omega) (.cells #[.int .u64 (t0 : Int), .int .u32 (e0 : Int), .int .u32 (m0 : Int), .int .u32 (f0 : Int)] 29)
  have hg0 := blk_alloc hg0 (.cells #[.int .u64 0, .int .u32 0, .int .u32 0, .int .u32 0] 29)
  have hg1 := blk_alloc hg1 (.cells #[.int .u64 0, .int .u32 0, .int .u32 0, .int .u32 0] 29)
  have hk := blk_alloc hk (.cells #[.int .u64 0, .int .u32 0, .int .u32 0, .int .u32 0] 29)
  have hsz : (w10.alloc (.cells #[.int .u64 0, .int .u32 0, .int .u32 0, .int .u32 0] 29)).heap.size = w10.heap.size + 1 := World.size_alloc _ _
  have hu1 := heap_alloc_new (w10.alloc (.cells #[.int .u64 0, .int .u32 0, .int .u32 0, .int .u32 0] 29)) (.cells #[.int .u64 (t0 : Int), .int .u32 (e0 : Int), .int .u32 (m0 : Int), .int .u32 (f0 : Int)] 29)
  have hu2 := heap_alloc_new (w10.alloc (.cells #[.int .u64 0, .int .u32 0, .int .u32 0, .int .u32 0] 29)) (.cells #[.int .u64 (t0 : Int), .int .u32 (e0 : Int), .int .u32 (m0 : Int), .int .u32 (f0 : Int)] 29)
  rw [hsz] at hu1 hu2
  clear hsz hb10
  obtain ⟨⟨u00, u01, u02, u03⟩, v00, v01, v02, v03⟩ := cell4 hu1
  obtain ⟨⟨u10, u11, u12, u13⟩, v10, v11, v12, v13⟩ := cell4 hu2
  obtain ⟨⟨a00, a01, a02, a03⟩, _⟩ := cell4 hg0
  obtain ⟨⟨a10, a11, a12, a13⟩, _⟩ := cell4 hg1
  obtain ⟨⟨c00, c01, c02, c03⟩, _⟩ := cell4 (blk_alloc hg0 (.cells #[.int .u64 (t0 : Int), .int .u32 (e0 : Int), .int .u32 (m0 : Int), .int .u32 (f0 : Int)] 29))
  obtain ⟨⟨c10, c11, c12, c13⟩, _⟩ := cell4 (blk_alloc hg1 (.cells #[.int .u64 (t0 : Int), .int .u32 (e0 : Int), .int .u32 (m0 : Int), .int .u32 (f0 : Int)] 29))
  obtain ⟨⟨k00, k01, k02, k03⟩, _⟩ := cell4 (blk_alloc hk (.cells #[.int .u64 (t0 : Int), .int .u32 (e0 : Int), .int .u32 (m0 : Int), .int .u32 (f0 : Int)] 29))
  clear hg0 hg1 hk hu1 hu2
  go_wp2_with fail
  go_ret
  exact ⟨rfl, hbz⟩

set_option maxRecDepth 20000 in
set_option maxHeartbeats 2000000 in
theorem newer_x0 (w : World) (t0 e0 m0 f0 t1 e1 m1 f1 : Nat) (ht0 : t0 < 18446744073709551616) (he0 : e0 < 4294967296) (hm0 : m0 < 4294967296) (hf0 : f0 < 4294967296) (ht1 : t1 < 18446744073709551616) (he1 : e1 < 4294967296) (hm1 : m1 < 4294967296) (hf1 : f1 < 4294967296) (size : Nat) (h1 : 512 ≤ size) (h2 : size ≤ 4096) (hR0 : MRight t0 e0 m0 f0) (hR1 : MRight t1 e1 m1 f1) (hp0 : t0 % 2 = 1) (hp1 : t1 % 2 = 0) (hlt : t1 < t0) :
    Calls Try.prog 8 #[.agg #[.int .u64 (t0 : Int), .int .u32 (e0 : Int), .int .u32 (m0 : Int), .int .u32 (f0 : Int)], .agg #[.int .u64 (t1 : Int), .int .u32 (e1 : Int), .int .u32 (m1 : Int), .int .u32 (f1 : Int)], .int .i64 (size : Int)] w fun r w' => r = .returned (.bool true) ∧ Below w.heap.size w w' := by
  have HP0 := Lib.hid hp0
  have HP1 := Lib.hid hp1
  have CH : mChosen (mPut t1 e1 m1 f1 size) (mPut t0 e0 m0 f0 size) = (t0, e0, m0, f0) := by
    rw [chosen_right t1 e1 m1 f1 t0 e0 m0 f0 size ht1 he1 hm1 hf1 ht0 he0 hm0 hf0 hR1 hR0 h1 h2 hp1 hp0]
    first | exact if_pos (by omega) | exact if_neg (by omega)
  have CW := chosen_wrong t1 e1 m1 f1 t0 e0 m0 f0 size ht1 he1 hm1 hf1 ht0 he0 hm0 hf0 hR1 hR0 h1 h2 hp1 hp0
  have CHH := Lib.hid CH
  have CWH := Lib.hid CW
  have tpos : ¬ t0 = 0 := by have := hR0.2.2.1; omega
  have TP := Lib.hid tpos
  have L0 := Lib.hid (mPut_length t0 e0 m0 f0 size (by omega))
  have L1 := Lib.hid (mPut_length t1 e1 m1 f1 size (by omega))
  clear hp0 hp1 CH CW tpos
  have hx0 := blk_alloc (heap_alloc_new w (.cells #[.int .u64 (t0 : Int), .int .u32 (e0 : Int), .int .u32 (m0 : Int), .int .u32 (f0 : Int)] 25)) (.cells #[.int .u64 (t1 : Int), .int .u32 (e1 : Int), .int .u32 (m1 : Int), .int .u32 (f1 : Int)] 25)
  have hx1 := heap_alloc_new (w.alloc (.cells #[.int .u64 (t0 : Int), .int .u32 (e0 : Int), .int .u32 (m0 : Int), .int .u32 (f0 : Int)] 25)) (.cells #[.int .u64 (t1 : Int), .int .u32 (e1 : Int), .int .u32 (m1 : Int), .int .u32 (f1 : Int)] 25)
  have hb0 : Below w.heap.size w ((w.alloc (.cells #[.int .u64 (t0 : Int), .int .u32 (e0 : Int), .int .u32 (m0 : Int), .int .u32 (f0 : Int)] 25)).alloc (.cells #[.int .u64 (t1 : Int), .int .u32 (e1 : Int), .int .u32 (m1 : Int), .int .u32 (f1 : Int)] 25)) := ((Below.refl _ _).alloc (Nat.le_refl _) _).alloc (by simp) _
  rw [World.size_alloc] at hx1
  have HX0 := Lib.hid hx0
  have HX1 := Lib.hid hx1
  clear hx0 hx1
  go_enter Try.func8, Try.ntmps8
  go_wp2_with fail
  refine (awake7 _).mono ?_
  rintro r w1 ⟨rfl, hb1'⟩
  have hb1 := hb0.trans (hb1'.mono hb0.size)
  have hx0 := blk_below HX0.out hb1' (blk_lt HX0.out)
  have hx1 := blk_below HX1.out hb1' (blk_lt HX1.out)
  obtain ⟨⟨x00, x01, x02, x03⟩, _⟩ := cell4 hx0
  clear hb0 hb1' HX0 HX1
  go_wp2_with fail
  refine (of_any _ t0 e0 m0 f0).mono ?_
  rintro r w2 ⟨rfl, hb2'⟩
  have hb2 := hb1.trans (hb2'.mono hb1.size)
  have hx1 := blk_below hx1 hb2' (blk_lt hx1)
  have hg0 := blk_alloc (heap_alloc_new w2 (.cells #[.int .u64 (t0 : Int), .int .u32 (e0 : Int), .int .u32 (m0 : Int), .int .u32 (f0 : Int)] 29)) (.cells #[.int .u64 (t0 : Int), .int .u32 (e0 : Int), .int .u32 (m0 : Int), .int .u32 (f0 : Int)] 30)
  have hgw0 : w.heap.size ≤ w2.heap.size := hb2.size
  have hb3 := (hb2.alloc hb2.size (.cells #[.int .u64 (t0 : Int), .int .u32 (e0 : Int), .int .u32 (m0 : Int), .int .u32 (f0 : Int)] 29)).alloc (by have := hb2.size; simp; omega) (.cells #[.int .u64 (t0 : Int), .int .u32 (e0 : Int), .int .u32 (m0 : Int), .int .u32 (f0 : Int)] 30)
  have hx1' := blk_alloc (blk_alloc hx1 (.cells #[.int .u64 (t0 : Int), .int .u32 (e0 : Int), .int .u32 (m0 : Int), .int .u32 (f0 : Int)] 29)) (.cells #[.int .u64 (t0 : Int), .int .u32 (e0 : Int), .int .u32 (m0 : Int), .int .u32 (f0 : Int)] 30)
  obtain ⟨⟨x10, x11, x12, x13⟩, _⟩ := cell4 hx1'
  clear hb1 hb2' x00 x01 x02 x03 hx0 hx1 hb2
  go_wp2_with fail
  generalize (w2.alloc (.cells #[.int .u64 (t0 : Int), .int .u32 (e0 : Int), .int .u32 (m0 : Int), .int .u32 (f0 : Int)] 29)).alloc (.cells #[.int .u64 (t0 : Int), .int .u32 (e0 : Int), .int .u32 (m0 : Int), .int .u32 (f0 : Int)] 30) = w3 at *
  generalize w2.heap.size = g0 at *
  refine (of_any _ t1 e1 m1 f1).mono ?_
  rintro r w4 ⟨rfl, hb4'⟩
  have hb4 := hb3.trans (hb4'.mono hb3.size)
  have hg0 := blk_below hg0 hb4' (blk_lt hg0)
  have hne : g0 ≠ w4.heap.size := by have := blk_lt hg0; omega
  have hg0 := blk_alloc (blk_alloc hg0 (.cells #[.int .u64 (t1 : Int), .int .u32 (e1 : Int), .int .u32 (m1 : Int), .int .u32 (f1 : Int)] 29)) (.cells #[.int .u64 (t1 : Int), .int .u32 (e1 : Int), .int .u32 (m1 : Int), .int .u32 (f1 : Int)] 30)
  have hg1 := blk_alloc (heap_alloc_new w4 (.cells #[.int .u64 (t1 : Int), .int .u32 (e1 : Int), .int .u32 (m1 : Int), .int .u32 (f1 : Int)] 29)) (.cells #[.int .u64 (t1 : Int), .int .u32 (e1 : Int), .int .u32 (m1 : Int), .int .u32 (f1 : Int)] 30)
  have hgw1 : w.heap.size ≤ w4.heap.size := hb4.size
  have hb5 := (hb4.alloc hb4.size (.cells #[.int .u64 (t1 : Int), .int .u32 (e1 : Int), .int .u32 (m1 : Int), .int .u32 (f1 : Int)] 29)).alloc (by have := hb4.size; simp; omega) (.cells #[.int .u64 (t1 : Int), .int .u32 (e1 : Int), .int .u32 (m1 : Int), .int .u32 (f1 : Int)] 30)
  clear hb3 hb4' x10 x11 x12 x13 hx1' hb4
  obtain ⟨⟨a00, a01, a02, a03⟩, b00, b01, b02, b03⟩ := cell4 hg0
  go_wp2_with fail
  clear a00 a01 a02 a03 b00 b01 b02 b03
  generalize (w4.alloc (.cells #[.int .u64 (t1 : Int), .int .u32 (e1 : Int), .int .u32 (m1 : Int), .int .u32 (f1 : Int)] 29)).alloc (.cells #[.int .u64 (t1 : Int), .int .u32 (e1 : Int), .int .u32 (m1 : Int), .int .u32 (f1 : Int)] 30) = w5 at *
  generalize w4.heap.size = g1 at *
  refine (mput_ok _ t0 e0 m0 f0 size ht0 he0 hm0 hf0 hR0 h1 h2).mono ?_
  rintro r w6 ⟨p0, rfl, hp0, hP0, hb6'⟩
  have hgp0 : g0 < p0 ∧ g1 < p0 := ⟨Nat.lt_of_lt_of_le (blk_lt hg0) hp0, Nat.lt_of_lt_of_le (blk_lt hg1) hp0⟩
  have hb6 := hb5.trans (hb6'.mono hb5.size)
  have hg0 := blk_below hg0 hb6' (blk_lt hg0)
  have hg1 := blk_below hg1 hb6' (blk_lt hg1)
  obtain ⟨⟨a10, a11, a12, a13⟩, b10, b11, b12, b13⟩ := cell4 hg1
  have hpw0 : w.heap.size ≤ p0 := Nat.le_trans hb5.size hp0
  clear hb5 hb6'
  go_wp2_with fail
  refine (mput_ok _ t1 e1 m1 f1 size ht1 he1 hm1 hf1 hR1 h1 h2).mono ?_
  rintro r w7 ⟨p1, rfl, hp1, hP1, hb7'⟩
  have hgp1 : g0 < p1 ∧ g1 < p1 := ⟨Nat.lt_of_lt_of_le (blk_lt hg0) hp1, Nat.lt_of_lt_of_le (blk_lt hg1) hp1⟩
  have hb7 := hb6.trans (hb7'.mono hb6.size)
  have hg0 := blk_below hg0 hb7' (blk_lt hg0)
  have hg1 := blk_below hg1 hb7' (blk_lt hg1)
  have hP0 := hP0.below hb7' hP0.lt
  have hpw1 : w.heap.size ≤ p1 := Nat.le_trans hb6.size hp1
  clear hb6 hb7' a10 a11 a12 a13 b10 b11 b12 b13
  obtain ⟨⟨a00, a01, a02, a03⟩, b00, b01, b02, b03⟩ := cell4 hg0
  obtain ⟨⟨a10, a11, a12, a13⟩, b10, b11, b12, b13⟩ := cell4 hg1
  have hq : (((t0 : Int) % 2) == ((t1 : Int) % 2)) = false := by have := HP0.out; have := HP1.out; simp; omega
  have hq1 : (((t0 : Int) % 2) == 1) = true := by have := HP0.out; simp; omega
  have d1 : decide ((t0 : Int) > (t1 : Int)) = true := by simp; omega
  go_wp2_with fail
  have hz0 := far4 (set4 hg0 (.int .u64 (t1 : Int)) (.int .u32 (e1 : Int)) (.int .u32 (m1 : Int)) (.int .u32 (f1 : Int))) hne (.int .u64 (t0 : Int)) (.int .u32 (e0 : Int)) (.int .u32 (m0 : Int)) (.int .u32 (f0 : Int))
  have hz1 := set4 (far4 hg1 (Ne.symm hne) (.int .u64 (t1 : Int)) (.int .u32 (e1 : Int)) (.int .u32 (m1 : Int)) (.int .u32 (f1 : Int))) (.int .u64 (t0 : Int)) (.int .u32 (e0 : Int)) (.int .u32 (m0 : Int)) (.int .u32 (f0 : Int))
  have hQ0 : RowB _ _ _ := far4 (far4 hP0 (p := g0) (by omega) (.int .u64 (t1 : Int)) (.int .u32 (e1 : Int)) (.int .u32 (m1 : Int)) (.int .u32 (f1 : Int))) (p := g1) (by omega) (.int .u64 (t0 : Int)) (.int .u32 (e0 : Int)) (.int .u32 (m0 : Int)) (.int .u32 (f0 : Int))
  have hQ1 : RowB _ _ _ := far4 (far4 hP1 (p := g0) (by omega) (.int .u64 (t1 : Int)) (.int .u32 (e1 : Int)) (.int .u32 (m1 : Int)) (.int .u32 (f1 : Int))) (p := g1) (by omega) (.int .u64 (t0 : Int)) (.int .u32 (e0 : Int)) (.int .u32 (m0 : Int)) (.int .u32 (f0 : Int))
  have hbs := below4 (below4 hb7 hgw0 (.int .u64 (t1 : Int)) (.int .u32 (e1 : Int)) (.int .u32 (m1 : Int)) (.int .u32 (f1 : Int))) hgw1 (.int .u64 (t0 : Int)) (.int .u32 (e0 : Int)) (.int .u32 (m0 : Int)) (.int .u32 (f0 : Int))
  clear hg0 hg1 hP0 hP1 hb7
  generalize ((((((((w7.setCell ⟨g0, 0, none⟩ (.int .u64 (t1 : Int))).setCell ⟨g0, 1, none⟩ (.int .u32 (e1 : Int))).setCell ⟨g0, 2, none⟩ (.int .u32 (m1 : Int))).setCell ⟨g0, 3, none⟩ (.int .u32 (f1 : Int))).setCell ⟨g1, 0, none⟩ (.int .u64 (t0 : Int))).setCell ⟨g1, 1, none⟩ (.int .u32 (e0 : Int))).setCell ⟨g1, 2, none⟩ (.int .u32 (m0 : Int))).setCell ⟨g1, 3, none⟩ (.int .u32 (f0 : Int))) = w7s at *
  have hg0 := hz0
  have hg1 := hz1
  have hP0 := hQ0
  have hP1 := hQ1
  have hb7 := hbs
  clear hz0 hz1 hQ0 hQ1 hbs
  refine (mchoose_is _ _ _ _ _ _ _ _ _ t0 e0 m0 f0 (hP1.slN L1.out (by omega)) (hP0.slN L0.out (by omega)) (by omega) (by omega) CHH TP).mono ?_
  rintro r w8 ⟨rfl, hb8'⟩
  have hb8 := hb7.trans (hb8'.mono hb7.size)
  have hg0 := blk_below hg0 hb8' (blk_lt hg0)
  have hg1 := blk_below hg1 hb8' (blk_lt hg1)
  have hP0 := hP0.below hb8' hP0.lt
  have hP1 := hP1.below hb8' hP1.lt
  have hk := heap_alloc_new w8 (.cells #[.int .u64 (t0 : Int), .int .u32 (e0 : Int), .int .u32 (m0 : Int), .int .u32 (f0 : Int)] 29)
  have hb9 := hb8.alloc hb8.size (.cells #[.int .u64 (t0 : Int), .int .u32 (e0 : Int), .int .u32 (m0 : Int), .int .u32 (f0 : Int)] 29)
  have hg0 := blk_alloc hg0 (.cells #[.int .u64 (t0 : Int), .int .u32 (e0 : Int), .int .u32 (m0 : Int), .int .u32 (f0 : Int)] 29)
  have hg1 := blk_alloc hg1 (.cells #[.int .u64 (t0 : Int), .int .u32 (e0 : Int), .int .u32 (m0 : Int), .int .u32 (f0 : Int)] 29)
  have hP0 : RowB _ _ _ := blk_alloc hP0 (.cells #[.int .u64 (t0 : Int), .int .u32 (e0 : Int), .int .u32 (m0 : Int), .int .u32 (f0 : Int)] 29)
  have hP1 : RowB _ _ _ := blk_alloc hP1 (.cells #[.int .u64 (t0 : Int), .int .u32 (e0 : Int), .int .u32 (m0 : Int), .int .u32 (f0 : Int)] 29)
  clear hb7 hb8 hb8'
  go_wp2_with fail
  generalize w8.alloc (.cells #[.int .u64 (t0 : Int), .int .u32 (e0 : Int), .int .u32 (m0 : Int), .int .u32 (f0 : Int)] 29) = w9 at *
  generalize w8.heap.size = k at *
  refine (mchoose_none _ _ _ _ _ _ _ _ _ (hP0.slN L0.out (by omega)) (hP1.slN L1.out (by omega)) (by omega) (by omega) CWH).mono ?_
  rintro r w10 ⟨rfl, hb10'⟩
  have hb10 := hb9.trans (hb10'.mono hb9.size)
  have hg0 := blk_below hg0 hb10' (blk_lt hg0)
  have hg1 := blk_below hg1 hb10' (blk_lt hg1)
  have hk := blk_below hk hb10' (blk_lt hk)
  clear hb9 hb10' hP0 hP1
  have hbz := (hb10.alloc hb10.size (.cells #[.int .u64 0, .int .u32 0, .int .u32 0, .int .u32 0] 29)).alloc (by have := hb10.size; simp; omega) (.cells #[.int .u64 (t0 : Int), .int .u32 (e0 : Int), .int .u32 (m0 : Int), .int .u32 (f0 : Int)] 29)
  have hg0 := blk_alloc hg0 (.cells #[.int .u64 0, .int .u32 0, .int .u32 0, .int .u32 0] 29)
  have hg1 := blk_alloc hg1 (.cells #[.int .u64 0, .int .u32 0, .int .u32 0, .int .u32 0] 29)
  have hk := blk_alloc hk (.cells #[.int .u64 0, .int .u32 0, .int .u32 0, .int .u32 0] 29)
  have hsz : (w10.alloc (.cells #[.int .u64 0, .int .u32 0, .int .u32 0, .int .u32 0] 29)).heap.size = w10.heap.size + 1 := World.size_alloc _ _
  have hu1 := heap_alloc_new (w10.alloc (.cells #[.int .u64 0, .int .u32 0, .int .u32 0, .int .u32 0] 29)) (.cells #[.int .u64 (t1 : Int), .int .u32 (e1 : Int), .int .u32 (m1 : Int), .int .u32 (f1 : Int)] 29)
  have hu2 := heap_alloc_new (w10.alloc (.cells #[.int .u64 0, .int .u32 0, .int .u32 0, .int .u32 0] 29)) (.cells #[.int .u64 (t0 : Int), .int .u32 (e0 : Int), .int .u32 (m0 : Int), .int .u32 (f0 : Int)] 29)
  rw [hsz] at hu1 hu2
  clear hsz hb10
  obtain ⟨⟨u00, u01, u02, u03⟩, v00, v01, v02, v03⟩ := cell4 hu1
  obtain ⟨⟨u10, u11, u12, u13⟩, v10, v11, v12, v13⟩ := cell4 hu2
  obtain ⟨⟨a00, a01, a02, a03⟩, _⟩ := cell4 hg0
  obtain ⟨⟨a10, a11, a12, a13⟩, _⟩ := cell4 hg1
  obtain ⟨⟨c00, c01, c02, c03⟩, _⟩ := cell4 (blk_alloc hg0 (.cells #[.int .u64 (t1 : Int), .int .u32 (e1 : Int), .int .u32 (m1 : Int), .int .u32 (f1 : Int)] 29))
  obtain ⟨⟨c10, c11, c12, c13⟩, _⟩ := cell4 (blk_alloc hg1 (.cells #[.int .u64 (t1 : Int), .int .u32 (e1 : Int), .int .u32 (m1 : Int), .int .u32 (f1 : Int)] 29))
  obtain ⟨⟨k00, k01, k02, k03⟩, _⟩ := cell4 (blk_alloc hk (.cells #[.int .u64 (t0 : Int), .int .u32 (e0 : Int), .int .u32 (m0 : Int), .int .u32 (f0 : Int)] 29))
  clear hg0 hg1 hk hu1 hu2
  go_wp2_with fail
  go_ret
  exact ⟨rfl, hbz⟩

set_option maxRecDepth 20000 in
set_option maxHeartbeats 2000000 in
theorem newer_x1 (w : World) (t0 e0 m0 f0 t1 e1 m1 f1 : Nat) (ht0 : t0 < 18446744073709551616) (he0 : e0 < 4294967296) (hm0 : m0 < 4294967296) (hf0 : f0 < 4294967296) (ht1 : t1 < 18446744073709551616) (he1 : e1 < 4294967296) (hm1 : m1 < 4294967296) (hf1 : f1 < 4294967296) (size : Nat) (h1 : 512 ≤ size) (h2 : size ≤ 4096) (hR0 : MRight t0 e0 m0 f0) (hR1 : MRight t1 e1 m1 f1) (hp0 : t0 % 2 = 1) (hp1 : t1 % 2 = 0) (hlt : ¬ t1 < t0) :
    Calls Try.prog 8 #[.agg #[.int .u64 (t0 : Int), .int .u32 (e0 : Int), .int .u32 (m0 : Int), .int .u32 (f0 : Int)], .agg #[.int .u64 (t1 : Int), .int .u32 (e1 : Int), .int .u32 (m1 : Int), .int .u32 (f1 : Int)], .int .i64 (size : Int)] w fun r w' => r = .returned (.bool true) ∧ Below w.heap.size w w' := by
  have HP0 := Lib.hid hp0
  have HP1 := Lib.hid hp1
  have CH : mChosen (mPut t1 e1 m1 f1 size) (mPut t0 e0 m0 f0 size) = (t1, e1, m1, f1) := by
    rw [chosen_right t1 e1 m1 f1 t0 e0 m0 f0 size ht1 he1 hm1 hf1 ht0 he0 hm0 hf0 hR1 hR0 h1 h2 hp1 hp0]
    first | exact if_pos (by omega) | exact if_neg (by omega)
  have CW := chosen_wrong t1 e1 m1 f1 t0 e0 m0 f0 size ht1 he1 hm1 hf1 ht0 he0 hm0 hf0 hR1 hR0 h1 h2 hp1 hp0
  have CHH := Lib.hid CH
  have CWH := Lib.hid CW
  have tpos : ¬ t1 = 0 := by have := hR1.2.2.1; omega
  have TP := Lib.hid tpos
  have L0 := Lib.hid (mPut_length t0 e0 m0 f0 size (by omega))
  have L1 := Lib.hid (mPut_length t1 e1 m1 f1 size (by omega))
  clear hp0 hp1 CH CW tpos
  have hx0 := blk_alloc (heap_alloc_new w (.cells #[.int .u64 (t0 : Int), .int .u32 (e0 : Int), .int .u32 (m0 : Int), .int .u32 (f0 : Int)] 25)) (.cells #[.int .u64 (t1 : Int), .int .u32 (e1 : Int), .int .u32 (m1 : Int), .int .u32 (f1 : Int)] 25)
  have hx1 := heap_alloc_new (w.alloc (.cells #[.int .u64 (t0 : Int), .int .u32 (e0 : Int), .int .u32 (m0 : Int), .int .u32 (f0 : Int)] 25)) (.cells #[.int .u64 (t1 : Int), .int .u32 (e1 : Int), .int .u32 (m1 : Int), .int .u32 (f1 : Int)] 25)
  have hb0 : Below w.heap.size w ((w.alloc (.cells #[.int .u64 (t0 : Int), .int .u32 (e0 : Int), .int .u32 (m0 : Int), .int .u32 (f0 : Int)] 25)).alloc (.cells #[.int .u64 (t1 : Int), .int .u32 (e1 : Int), .int .u32 (m1 : Int), .int .u32 (f1 : Int)] 25)) := ((Below.refl _ _).alloc (Nat.le_refl _) _).alloc (by simp) _
  rw [World.size_alloc] at hx1
  have HX0 := Lib.hid hx0
  have HX1 := Lib.hid hx1
  clear hx0 hx1
  go_enter Try.func8, Try.ntmps8
  go_wp2_with fail
  refine (awake7 _).mono ?_
  rintro r w1 ⟨rfl, hb1'⟩
  have hb1 := hb0.trans (hb1'.mono hb0.size)
  have hx0 := blk_below HX0.out hb1' (blk_lt HX0.out)
  have hx1 := blk_below HX1.out hb1' (blk_lt HX1.out)
  obtain ⟨⟨x00, x01, x02, x03⟩, _⟩ := cell4 hx0
  clear hb0 hb1' HX0 HX1
  go_wp2_with fail
  refine (of_any _ t0 e0 m0 f0).mono ?_
  rintro r w2 ⟨rfl, hb2'⟩
  have hb2 := hb1.trans (hb2'.mono hb1.size)
  have hx1 := blk_below hx1 hb2' (blk_lt hx1)
  have hg0 := blk_alloc (heap_alloc_new w2 (.cells #[.int .u64 (t0 : Int), .int .u32 (e0 : Int), .int .u32 (m0 : Int), .int .u32 (f0 : Int)] 29)) (.cells #[.int .u64 (t0 : Int), .int .u32 (e0 : Int), .int .u32 (m0 : Int), .int .u32 (f0 : Int)] 30)
  have hgw0 : w.heap.size ≤ w2.heap.size := hb2.size
  have hb3 := (hb2.alloc hb2.size (.cells #[.int .u64 (t0 : Int), .int .u32 (e0 : Int), .int .u32 (m0 : Int), .int .u32 (f0 : Int)] 29)).alloc (by have := hb2.size; simp; omega) (.cells #[.int .u64 (t0 : Int), .int .u32 (e0 : Int), .int .u32 (m0 : Int), .int .u32 (f0 : Int)] 30)
  have hx1' := blk_alloc (blk_alloc hx1 (.cells #[.int .u64 (t0 : Int), .int .u32 (e0 : Int), .int .u32 (m0 : Int), .int .u32 (f0 : Int)] 29)) (.cells #[.int .u64 (t0 : Int), .int .u32 (e0 : Int), .int .u32 (m0 : Int), .int .u32 (f0 : Int)] 30)
  obtain ⟨⟨x10, x11, x12, x13⟩, _⟩ := cell4 hx1'
  clear hb1 hb2' x00 x01 x02 x03 hx0 hx1 hb2
  go_wp2_with fail
  generalize (w2.alloc (.cells #[.int .u64 (t0 : Int), .int .u32 (e0 : Int), .int .u32 (m0 : Int), .int .u32 (f0 : Int)] 29)).alloc (.cells #[.int .u64 (t0 : Int), .int .u32 (e0 : Int), .int .u32 (m0 : Int), .int .u32 (f0 : Int)] 30) = w3 at *
  generalize w2.heap.size = g0 at *
  refine (of_any _ t1 e1 m1 f1).mono ?_
  rintro r w4 ⟨rfl, hb4'⟩
  have hb4 := hb3.trans (hb4'.mono hb3.size)
  have hg0 := blk_below hg0 hb4' (blk_lt hg0)
  have hne : g0 ≠ w4.heap.size := by have := blk_lt hg0; omega
  have hg0 := blk_alloc (blk_alloc hg0 (.cells #[.int .u64 (t1 : Int), .int .u32 (e1 : Int), .int .u32 (m1 : Int), .int .u32 (f1 : Int)] 29)) (.cells #[.int .u64 (t1 : Int), .int .u32 (e1 : Int), .int .u32 (m1 : Int), .int .u32 (f1 : Int)] 30)
  have hg1 := blk_alloc (heap_alloc_new w4 (.cells #[.int .u64 (t1 : Int), .int .u32 (e1 : Int), .int .u32 (m1 : Int), .int .u32 (f1 : Int)] 29)) (.cells #[.int .u64 (t1 : Int), .int .u32 (e1 : Int), .int .u32 (m1 : Int), .int .u32 (f1 : Int)] 30)
  have hgw1 : w.heap.size ≤ w4.heap.size := hb4.size
  have hb5 := (hb4.alloc hb4.size (.cells #[.int .u64 (t1 : Int), .int .u32 (e1 : Int), .int .u32 (m1 : Int), .int .u32 (f1 : Int)] 29)).alloc (by have := hb4.size; simp; omega) (.cells #[.int .u64 (t1 : Int), .int .u32 (e1 : Int), .int .u32 (m1 : Int), .int .u32 (f1 : Int)] 30)
  clear hb3 hb4' x10 x11 x12 x13 hx1' hb4
  obtain ⟨⟨a00, a01, a02, a03⟩, b00, b01, b02, b03⟩ := cell4 hg0
  go_wp2_with fail
  clear a00 a01 a02 a03 b00 b01 b02 b03
  generalize (w4.alloc (.cells #[.int .u64 (t1 : Int), .int .u32 (e1 : Int), .int .u32 (m1 : Int), .int .u32 (f1 : Int)] 29)).alloc (.cells #[.int .u64 (t1 : Int), .int .u32 (e1 : Int), .int .u32 (m1 : Int), .int .u32 (f1 : Int)] 30) = w5 at *
  generalize w4.heap.size = g1 at *
  refine (mput_ok _ t0 e0 m0 f0 size ht0 he0 hm0 hf0 hR0 h1 h2).mono ?_
  rintro r w6 ⟨p0, rfl, hp0, hP0, hb6'⟩
  have hgp0 : g0 < p0 ∧ g1 < p0 := ⟨Nat.lt_of_lt_of_le (blk_lt hg0) hp0, Nat.lt_of_lt_of_le (blk_lt hg1) hp0⟩
  have hb6 := hb5.trans (hb6'.mono hb5.size)
  have hg0 := blk_below hg0 hb6' (blk_lt hg0)
  have hg1 := blk_below hg1 hb6' (blk_lt hg1)
  obtain ⟨⟨a10, a11, a12, a13⟩, b10, b11, b12, b13⟩ := cell4 hg1
  have hpw0 : w.heap.size ≤ p0 := Nat.le_trans hb5.size hp0
  clear hb5 hb6'
  go_wp2_with fail
  refine (mput_ok _ t1 e1 m1 f1 size ht1 he1 hm1 hf1 hR1 h1 h2).mono ?_
  rintro r w7 ⟨p1, rfl, hp1, hP1, hb7'⟩
  have hgp1 : g0 < p1 ∧ g1 < p1 := ⟨Nat.lt_of_lt_of_le (blk_lt hg0) hp1, Nat.lt_of_lt_of_le (blk_lt hg1) hp1⟩
  have hb7 := hb6.trans (hb7'.mono hb6.size)
  have hg0 := blk_below hg0 hb7' (blk_lt hg0)
  have hg1 := blk_below hg1 hb7' (blk_lt hg1)
  have hP0 := hP0.below hb7' hP0.lt
  have hpw1 : w.heap.size ≤ p1 := Nat.le_trans hb6.size hp1
  clear hb6 hb7' a10 a11 a12 a13 b10 b11 b12 b13
  obtain ⟨⟨a00, a01, a02, a03⟩, b00, b01, b02, b03⟩ := cell4 hg0
  obtain ⟨⟨a10, a11, a12, a13⟩, b10, b11, b12, b13⟩ := cell4 hg1
  have hq : (((t0 : Int) % 2) == ((t1 : Int) % 2)) = false := by have := HP0.out; have := HP1.out; simp; omega
  have hq1 : (((t0 : Int) % 2) == 1) = true := by have := HP0.out; simp; omega
  have d1 : decide ((t0 : Int) > (t1 : Int)) = false := by simp; omega
  go_wp2_with fail
  have hz0 := far4 (set4 hg0 (.int .u64 (t1 : Int)) (.int .u32 (e1 : Int)) (.int .u32 (m1 : Int)) (.int .u32 (f1 : Int))) hne (.int .u64 (t0 : Int)) (.int .u32 (e0 : Int)) (.int .u32 (m0 : Int)) (.int .u32 (f0 : Int))
  have hz1 := set4 (far4 hg1 (Ne.symm hne) (.int .u64 (t1 : Int)) (.int .u32 (e1 : Int)) (.int .u32 (m1 : Int)) (.int .u32 (f1 : Int))) (.int .u64 (t0 : Int)) (.int .u32 (e0 : Int)) (.int .u32 (m0 : Int)) (.int .u32 (f0 : Int))
  have hQ0 : RowB _ _ _ := far4 (far4 hP0 (p := g0) (by omega) (.int .u64 (t1 : Int)) (.int .u32 (e1 : Int)) (.int .u32 (m1 : Int)) (.int .u32 (f1 : Int))) (p := g1) (by omega) (.int .u64 (t0 : Int)) (.int .u32 (e0 : Int)) (.int .u32 (m0 : Int)) (.int .u32 (f0 : Int))
  have hQ1 : RowB _ _ _ := far4 (far4 hP1 (p := g0) (by omega) (.int .u64 (t1 : Int)) (.int .u32 (e1 : Int)) (.int .u32 (m1 : Int)) (.int .u32 (f1 : Int))) (p := g1) (by omega) (.int .u64 (t0 : Int)) (.int .u32 (e0 : Int)) (.int .u32 (m0 : Int)) (.int .u32 (f0 : Int))
  have hbs := below4 (below4 hb7 hgw0 (.int .u64 (t1 : Int)) (.int .u32 (e1 : Int)) (.int .u32 (m1 : Int)) (.int .u32 (f1 : Int))) hgw1 (.int .u64 (t0 : Int)) (.int .u32 (e0 : Int)) (.int .u32 (m0 : Int)) (.int .u32 (f0 : Int))
  clear hg0 hg1 hP0 hP1 hb7
  generalize ((((((((w7.setCell ⟨g0, 0, none⟩ (.int .u64 (t1 : Int))).setCell ⟨g0, 1, none⟩ (.int .u32 (e1 : Int))).setCell ⟨g0, 2, none⟩ (.int .u32 (m1 : Int))).setCell ⟨g0, 3, none⟩ (.int .u32 (f1 : Int))).setCell ⟨g1, 0, none⟩ (.int .u64 (t0 : Int))).setCell ⟨g1, 1, none⟩ (.int .u32 (e0 : Int))).setCell ⟨g1, 2, none⟩ (.int .u32 (m0 : Int))).setCell ⟨g1, 3, none⟩ (.int .u32 (f0 : Int))) = w7s at *
  have hg0 := hz0
  have hg1 := hz1
  have hP0 := hQ0
  have hP1 := hQ1
  have hb7 := hbs
  clear hz0 hz1 hQ0 hQ1 hbs
  refine (mchoose_is _ _ _ _ _ _ _ _ _ t1 e1 m1 f1 (hP1.slN L1.out (by omega)) (hP0.slN L0.out (by omega)) (by omega) (by omega) CHH TP).mono ?_
  rintro r w8 ⟨rfl, hb8'⟩
  have hb8 := hb7.trans (hb8'.mono hb7.size)
  have hg0 := blk_below hg0 hb8' (blk_lt hg0)
  have hg1 := blk_below hg1 hb8' (blk_lt hg1)
  have hP0 := hP0.below hb8' hP0.lt
  have hP1 := hP1.below hb8' hP1.lt
  have hk := heap_alloc_new w8 (.cells #[.int .u64 (t1 : Int), .int .u32 (e1 : Int), .int .u32 (m1 : Int), .int .u32 (f1 : Int)] 29)
  have hb9 := hb8.alloc hb8.size (.cells #[.int .u64 (t1 : Int), .int .u32 (e1 : Int), .int .u32 (m1 : Int), .int .u32 (f1 : Int)] 29)
  have hg0 := blk_alloc hg0 (.cells #[.int .u64 (t1 : Int), .int .u32 (e1 : Int), .int .u32 (m1 : Int), .int .u32 (f1 : Int)] 29)
  have hg1 := blk_alloc hg1 (.cells #[.int .u64 (t1 : Int), .int .u32 (e1 : Int), .int .u32 (m1 : Int), .int .u32 (f1 : Int)] 29)
  have hP0 : RowB _ _ _ := blk_alloc hP0 (.cells #[.int .u64 (t1 : Int), .int .u32 (e1 : Int), .int .u32 (m1 : Int), .int .u32 (f1 : Int)] 29)
  have hP1 : RowB _ _ _ := blk_alloc hP1 (.cells #[.int .u64 (t1 : Int), .int .u32 (e1 : Int), .int .u32 (m1 : Int), .int .u32 (f1 : Int)] 29)
  clear hb7 hb8 hb8'
  go_wp2_with fail
  generalize w8.alloc (.cells #[.int .u64 (t1 : Int), .int .u32 (e1 : Int), .int .u32 (m1 : Int), .int .u32 (f1 : Int)] 29) = w9 at *
  generalize w8.heap.size = k at *
  refine (mchoose_none _ _ _ _ _ _ _ _ _ (hP0.slN L0.out (by omega)) (hP1.slN L1.out (by omega)) (by omega) (by omega) CWH).mono ?_
  rintro r w10 ⟨rfl, hb10'⟩
  have hb10 := hb9.trans (hb10'.mono hb9.size)
  have hg0 := blk_below hg0 hb10' (blk_lt hg0)
  have hg1 := blk_below hg1 hb10' (blk_lt hg1)
  have hk := blk_below hk hb10' (blk_lt hk)
  clear hb9 hb10' hP0 hP1
  have hbz := (hb10.alloc hb10.size (.cells #[.int .u64 0, .int .u32 0, .int .u32 0, .int .u32 0] 29)).alloc (by have := hb10.size; simp; omega) (.cells #[.int .u64 (t1 : Int), .int .u32 (e1 : Int), .int .u32 (m1 : Int), .int .u32 (f1 : Int)] 29)
  have hg0 := blk_alloc hg0 (.cells #[.int .u64 0, .int .u32 0, .int .u32 0, .int .u32 0] 29)
  have hg1 := blk_alloc hg1 (.cells #[.int .u64 0, .int .u32 0, .int .u32 0, .int .u32 0] 29)
  have hk := blk_alloc hk (.cells #[.int .u64 0, .int .u32 0, .int .u32 0, .int .u32 0] 29)
  have hsz : (w10.alloc (.cells #[.int .u64 0, .int .u32 0, .int .u32 0, .int .u32 0] 29)).heap.size = w10.heap.size + 1 := World.size_alloc _ _
  have hu1 := heap_alloc_new (w10.alloc (.cells #[.int .u64 0, .int .u32 0, .int .u32 0, .int .u32 0] 29)) (.cells #[.int .u64 (t1 : Int), .int .u32 (e1 : Int), .int .u32 (m1 : Int), .int .u32 (f1 : Int)] 29)
  have hu2 := heap_alloc_new (w10.alloc (.cells #[.int .u64 0, .int .u32 0, .int .u32 0, .int .u32 0] 29)) (.cells #[.int .u64 (t1 : Int), .int .u32 (e1 : Int), .int .u32 (m1 : Int), .int .u32 (f1 : Int)] 29)
  rw [hsz] at hu1 hu2
  clear hsz hb10
  obtain ⟨⟨u00, u01, u02, u03⟩, v00, v01, v02, v03⟩ := cell4 hu1
  obtain ⟨⟨u10, u11, u12, u13⟩, v10, v11, v12, v13⟩ := cell4 hu2
  obtain ⟨⟨a00, a01, a02, a03⟩, _⟩ := cell4 hg0
  obtain ⟨⟨a10, a11, a12, a13⟩, _⟩ := cell4 hg1
  obtain ⟨⟨c00, c01, c02, c03⟩, _⟩ := cell4 (blk_alloc hg0 (.cells #[.int .u64 (t1 : Int), .int .u32 (e1 : Int), .int .u32 (m1 : Int), .int .u32 (f1 : Int)] 29))
  obtain ⟨⟨c10, c11, c12, c13⟩, _⟩ := cell4 (blk_alloc hg1 (.cells #[.int .u64 (t1 : Int), .int .u32 (e1 : Int), .int .u32 (m1 : Int), .int .u32 (f1 : Int)] 29))
  obtain ⟨⟨k00, k01, k02, k03⟩, _⟩ := cell4 (blk_alloc hk (.cells #[.int .u64 (t1 : Int), .int .u32 (e1 : Int), .int .u32 (m1 : Int), .int .u32 (f1 : Int)] 29))
  clear hg0 hg1 hk hu1 hu2
  go_wp2_with fail
  go_ret
  exact ⟨rfl, hbz⟩

set_option maxRecDepth 20000 in
set_option maxHeartbeats 2000000 in
theorem metaNewer_law (w : World) (t0 e0 m0 f0 t1 e1 m1 f1 : Nat) (ht0 : t0 < 18446744073709551616) (he0 : e0 < 4294967296) (hm0 : m0 < 4294967296) (hf0 : f0 < 4294967296) (ht1 : t1 < 18446744073709551616) (he1 : e1 < 4294967296) (hm1 : m1 < 4294967296) (hf1 : f1 < 4294967296) (S : Int)  :
    Calls Try.prog 8 #[.agg #[.int .u64 (t0 : Int), .int .u32 (e0 : Int), .int .u32 (m0 : Int), .int .u32 (f0 : Int)], .agg #[.int .u64 (t1 : Int), .int .u32 (e1 : Int), .int .u32 (m1 : Int), .int .u32 (f1 : Int)], .int .i64 S] w fun r w' => r = .returned (.bool true) ∧ Below w.heap.size w w' := by
  by_cases h0 : MRight t0 e0 m0 f0 ∧ 512 ≤ S ∧ S ≤ 4096
  · by_cases h1 : MRight t1 e1 m1 f1 ∧ 512 ≤ S ∧ S ≤ 4096
    · obtain ⟨size, rfl⟩ := Int.eq_ofNat_of_zero_le (show 0 ≤ S by omega)
      have s1 : 512 ≤ size := by omega
      have s2 : size ≤ 4096 := by omega
      by_cases hp : t0 % 2 = t1 % 2
      · exact newer_same w t0 e0 m0 f0 t1 e1 m1 f1 ht0 he0 hm0 hf0 ht1 he1 hm1 hf1 size s1 s2 h0.1 h1.1 hp
      · by_cases p0 : t0 % 2 = 0
        · by_cases hlt : t0 < t1
          · exact newer_s1 w t0 e0 m0 f0 t1 e1 m1 f1 ht0 he0 hm0 hf0 ht1 he1 hm1 hf1 size s1 s2 h0.1 h1.1 p0 (by omega) hlt
          · exact newer_s0 w t0 e0 m0 f0 t1 e1 m1 f1 ht0 he0 hm0 hf0 ht1 he1 hm1 hf1 size s1 s2 h0.1 h1.1 p0 (by omega) hlt
        · by_cases hlt : t1 < t0
          · exact newer_x0 w t0 e0 m0 f0 t1 e1 m1 f1 ht0 he0 hm0 hf0 ht1 he1 hm1 hf1 size s1 s2 h0.1 h1.1 (by omega) (by omega) hlt
          · exact newer_x1 w t0 e0 m0 f0 t1 e1 m1 f1 ht0 he0 hm0 hf0 ht1 he1 hm1 hf1 size s1 s2 h0.1 h1.1 (by omega) (by omega) hlt
    · exact newer_no1 w t0 e0 m0 f0 t1 e1 m1 f1 ht0 he0 hm0 hf0 ht1 he1 hm1 hf1 S h0 h1
  · exact newer_no0 w t0 e0 m0 f0 t1 e1 m1 f1 ht0 he0 hm0 hf0 ht1 he1 hm1 hf1 S h0

end Go.Proofs.Ytpipgeboddaipaa
