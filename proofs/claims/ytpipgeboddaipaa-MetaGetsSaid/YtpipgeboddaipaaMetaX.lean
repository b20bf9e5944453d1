/- Layer 7's reference: Choose. -/
import Derived.Test.YtpipgeboddaipaaMetaW
namespace Go.Proofs.Ytpipgeboddaipaa
open Go.RowKit
set_option linter.unusedVariables false
set_option linter.unusedSimpArgs false

theorem rget_is (w : World) (l : List UInt8) (t e m f : Nat) (hl : l.length ≤ 140737488355328) (h : Hid (mGet l = (some (t, e, m, f), 0))) :
    Calls Try.prog 19 #[.string (st l)] w fun r w' => r = .returned (.tuple #[.agg #[.int .u64 (t : Int), .int .u32 (e : Int), .int .u32 (m : Int), .int .u32 (f : Int)], .int .i64 0]) ∧ Below w.heap.size w w' := by
  have := rget_any w l hl
  rw [h.out] at this
  exact this
theorem rget_none (w : World) (l : List UInt8) (E : Int) (hl : l.length ≤ 140737488355328) (h : Hid (mGet l = (none, E))) :
    Calls Try.prog 19 #[.string (st l)] w fun r w' => r = .returned (.tuple #[.agg #[.int .u64 0, .int .u32 0, .int .u32 0, .int .u32 0], .int .i64 E]) ∧ Below w.heap.size w w' := by
  have := rget_any w l hl
  rw [h.out] at this
  exact this

set_option maxRecDepth 20000 in
set_option maxHeartbeats 1000000 in
theorem rch_gga (w : World) (la lb : List UInt8) (hla : la.length ≤ 140737488355328) (hlb : lb.length ≤ 140737488355328) (ta ea ma fa : Nat) (bta : ta < 18446744073709551616) (hta : ta % 2 = 0) (ha : Hid (mGet la = (some (ta, ea, ma, fa), 0))) (tb eb mb fb : Nat) (btb : tb < 18446744073709551616) (htb : tb % 2 = 1) (hb : Hid (mGet lb = (some (tb, eb, mb, fb), 0))) (hgt : tb < ta) :
    Calls Try.prog 22 #[.string (st la), .string (st lb)] w fun r w' => r = .returned (.tuple #[.agg #[.int .u64 (ta : Int), .int .u32 (ea : Int), .int .u32 (ma : Int), .int .u32 (fa : Int)], .int .i64 0]) ∧ Below w.heap.size w w' := by
  have hz0 := heap_alloc_new w (.cells #[.int .u64 0, .int .u32 0, .int .u32 0, .int .u32 0] 30)
  have hb0 : Below w.heap.size w (w.alloc (.cells #[.int .u64 0, .int .u32 0, .int .u32 0, .int .u32 0] 30)) := (Below.refl _ _).alloc (Nat.le_refl _) _
  have ka : (((ta : Int) % 2) == 0) = true := by simp; omega
  have kna : ((((ta % 2 : Nat) : Int)) == 0) = true := by simp; omega
  have kb : (((tb : Int) % 2) == 1) = true := by simp; omega
  have knb : ((((tb % 2 : Nat) : Int)) == 1) = true := by simp; omega
  have d1 : decide ((tb : Int) < (ta : Int)) = true := decide_eq_true (by omega)
  have d1n : decide (tb < ta) = true := decide_eq_true hgt
  have HZ0 := Lib.hid hz0
  clear hz0 hta htb
  go_enter Try.func22, Try.ntmps22
  go_wp2_with fail
  refine (rget_is _ la ta ea ma fa hla ha).mono ?_
  rintro r w1 ⟨rfl, hb1'⟩
  have hb1 := hb0.trans (hb1'.mono hb0.size)
  have hz1 := blk_alloc (blk_below HZ0.out hb1' (blk_lt HZ0.out)) (.cells #[.int .u64 (ta : Int), .int .u32 (ea : Int), .int .u32 (ma : Int), .int .u32 (fa : Int)] 30)
  have hx1 := heap_alloc_new w1 (.cells #[.int .u64 (ta : Int), .int .u32 (ea : Int), .int .u32 (ma : Int), .int .u32 (fa : Int)] 30)
  have hgt1 : w.heap.size < w1.heap.size := by have := hb1'.size; simp at this; omega
  have hb2 := hb1.alloc hb1.size (.cells #[.int .u64 (ta : Int), .int .u32 (ea : Int), .int .u32 (ma : Int), .int .u32 (fa : Int)] 30)
  clear hb0 hb1' HZ0 hb1
  go_wp2_with fail
  generalize w1.alloc (.cells #[.int .u64 (ta : Int), .int .u32 (ea : Int), .int .u32 (ma : Int), .int .u32 (fa : Int)] 30) = w2 at *
  generalize w1.heap.size = ga at *
  refine (rget_is _ lb tb eb mb fb hlb hb).mono ?_
  rintro r w3 ⟨rfl, hb3'⟩
  have hb3 := hb2.trans (hb3'.mono hb2.size)
  have hz3 := blk_alloc (blk_below hz1 hb3' (blk_lt hz1)) (.cells #[.int .u64 (tb : Int), .int .u32 (eb : Int), .int .u32 (mb : Int), .int .u32 (fb : Int)] 30)
  have hx3 := blk_alloc (blk_below hx1 hb3' (blk_lt hx1)) (.cells #[.int .u64 (tb : Int), .int .u32 (eb : Int), .int .u32 (mb : Int), .int .u32 (fb : Int)] 30)
  have hy3 := heap_alloc_new w3 (.cells #[.int .u64 (tb : Int), .int .u32 (eb : Int), .int .u32 (mb : Int), .int .u32 (fb : Int)] 30)
  have hb4 := hb3.alloc hb3.size (.cells #[.int .u64 (tb : Int), .int .u32 (eb : Int), .int .u32 (mb : Int), .int .u32 (fb : Int)] 30)
  obtain ⟨⟨z0, z1, z2, z3⟩, f0, f1, f2, f3⟩ := cell4 hz3
  obtain ⟨⟨x0, x1, x2, x3⟩, _⟩ := cell4 hx3
  obtain ⟨⟨y0, y1, y2, y3⟩, _⟩ := cell4 hy3
  have hbz := below4 hb4 (Nat.le_refl _) (.int .u64 (ta : Int)) (.int .u32 (ea : Int)) (.int .u32 (ma : Int)) (.int .u32 (fa : Int))
  obtain ⟨⟨t0, t1, t2, t3⟩, _⟩ := cell4 (set4 hz3 (.int .u64 (ta : Int)) (.int .u32 (ea : Int)) (.int .u32 (ma : Int)) (.int .u32 (fa : Int)))
  clear hb2 hb3 hb3' hz1 hx1 hz3 hx3 hy3 hb4
  go_wp2_with fail
  exact bodyPost_ret (v := .tuple #[.agg #[.int .u64 (ta : Int), .int .u32 (ea : Int), .int .u32 (ma : Int), .int .u32 (fa : Int)], .int .i64 0]) (by simp [results, Try.results22, go_sem, t0, t1, t2, t3]) rfl ⟨rfl, hbz⟩

set_option maxRecDepth 20000 in
set_option maxHeartbeats 1000000 in
theorem rch_ggb (w : World) (la lb : List UInt8) (hla : la.length ≤ 140737488355328) (hlb : lb.length ≤ 140737488355328) (ta ea ma fa : Nat) (bta : ta < 18446744073709551616) (hta : ta % 2 = 0) (ha : Hid (mGet la = (some (ta, ea, ma, fa), 0))) (tb eb mb fb : Nat) (btb : tb < 18446744073709551616) (htb : tb % 2 = 1) (hb : Hid (mGet lb = (some (tb, eb, mb, fb), 0))) (hgt : ¬ tb < ta) :
    Calls Try.prog 22 #[.string (st la), .string (st lb)] w fun r w' => r = .returned (.tuple #[.agg #[.int .u64 (tb : Int), .int .u32 (eb : Int), .int .u32 (mb : Int), .int .u32 (fb : Int)], .int .i64 0]) ∧ Below w.heap.size w w' := by
  have hz0 := heap_alloc_new w (.cells #[.int .u64 0, .int .u32 0, .int .u32 0, .int .u32 0] 30)
  have hb0 : Below w.heap.size w (w.alloc (.cells #[.int .u64 0, .int .u32 0, .int .u32 0, .int .u32 0] 30)) := (Below.refl _ _).alloc (Nat.le_refl _) _
  have ka : (((ta : Int) % 2) == 0) = true := by simp; omega
  have kna : ((((ta % 2 : Nat) : Int)) == 0) = true := by simp; omega
  have kb : (((tb : Int) % 2) == 1) = true := by simp; omega
  have knb : ((((tb % 2 : Nat) : Int)) == 1) = true := by simp; omega
  have d1 : decide ((tb : Int) < (ta : Int)) = false := decide_eq_false (by omega)
  have d1n : decide (tb < ta) = false := decide_eq_false hgt
  have HZ0 := Lib.hid hz0
  clear hz0 hta htb
  go_enter Try.func22, Try.ntmps22
  go_wp2_with fail
  refine (rget_is _ la ta ea ma fa hla ha).mono ?_
  rintro r w1 ⟨rfl, hb1'⟩
  have hb1 := hb0.trans (hb1'.mono hb0.size)
  have hz1 := blk_alloc (blk_below HZ0.out hb1' (blk_lt HZ0.out)) (.cells #[.int .u64 (ta : Int), .int .u32 (ea : Int), .int .u32 (ma : Int), .int .u32 (fa : Int)] 30)
  have hx1 := heap_alloc_new w1 (.cells #[.int .u64 (ta : Int), .int .u32 (ea : Int), .int .u32 (ma : Int), .int .u32 (fa : Int)] 30)
  have hgt1 : w.heap.size < w1.heap.size := by have := hb1'.size; simp at this; omega
  have hb2 := hb1.alloc hb1.size (.cells #[.int .u64 (ta : Int), .int .u32 (ea : Int), .int .u32 (ma : Int), .int .u32 (fa : Int)] 30)
  clear hb0 hb1' HZ0 hb1
  go_wp2_with fail
  generalize w1.alloc (.cells #[.int .u64 (ta : Int), .int .u32 (ea : Int), .int .u32 (ma : Int), .int .u32 (fa : Int)] 30) = w2 at *
  generalize w1.heap.size = ga at *
  refine (rget_is _ lb tb eb mb fb hlb hb).mono ?_
  rintro r w3 ⟨rfl, hb3'⟩
  have hb3 := hb2.trans (hb3'.mono hb2.size)
  have hz3 := blk_alloc (blk_below hz1 hb3' (blk_lt hz1)) (.cells #[.int .u64 (tb : Int), .int .u32 (eb : Int), .int .u32 (mb : Int), .int .u32 (fb : Int)] 30)
  have hx3 := blk_alloc (blk_below hx1 hb3' (blk_lt hx1)) (.cells #[.int .u64 (tb : Int), .int .u32 (eb : Int), .int .u32 (mb : Int), .int .u32 (fb : Int)] 30)
  have hy3 := heap_alloc_new w3 (.cells #[.int .u64 (tb : Int), .int .u32 (eb : Int), .int .u32 (mb : Int), .int .u32 (fb : Int)] 30)
  have hb4 := hb3.alloc hb3.size (.cells #[.int .u64 (tb : Int), .int .u32 (eb : Int), .int .u32 (mb : Int), .int .u32 (fb : Int)] 30)
  obtain ⟨⟨z0, z1, z2, z3⟩, f0, f1, f2, f3⟩ := cell4 hz3
  obtain ⟨⟨x0, x1, x2, x3⟩, _⟩ := cell4 hx3
  obtain ⟨⟨y0, y1, y2, y3⟩, _⟩ := cell4 hy3
  have hbz := below4 hb4 (Nat.le_refl _) (.int .u64 (tb : Int)) (.int .u32 (eb : Int)) (.int .u32 (mb : Int)) (.int .u32 (fb : Int))
  obtain ⟨⟨t0, t1, t2, t3⟩, _⟩ := cell4 (set4 hz3 (.int .u64 (tb : Int)) (.int .u32 (eb : Int)) (.int .u32 (mb : Int)) (.int .u32 (fb : Int)))
  clear hb2 hb3 hb3' hz1 hx1 hz3 hx3 hy3 hb4
  go_wp2_with fail
  exact bodyPost_ret (v := .tuple #[.agg #[.int .u64 (tb : Int), .int .u32 (eb : Int), .int .u32 (mb : Int), .int .u32 (fb : Int)], .int .i64 0]) (by simp [results, Try.results22, go_sem, t0, t1, t2, t3]) rfl ⟨rfl, hbz⟩

set_option maxRecDepth 20000 in
set_option maxHeartbeats 1000000 in
theorem rch_gb (w : World) (la lb : List UInt8) (hla : la.length ≤ 140737488355328) (hlb : lb.length ≤ 140737488355328) (ta ea ma fa : Nat) (bta : ta < 18446744073709551616) (hta : ta % 2 = 0) (ha : Hid (mGet la = (some (ta, ea, ma, fa), 0))) (tb eb mb fb : Nat) (btb : tb < 18446744073709551616) (htb : tb % 2 = 0) (hb : Hid (mGet lb = (some (tb, eb, mb, fb), 0)))  :
    Calls Try.prog 22 #[.string (st la), .string (st lb)] w fun r w' => r = .returned (.tuple #[.agg #[.int .u64 (ta : Int), .int .u32 (ea : Int), .int .u32 (ma : Int), .int .u32 (fa : Int)], .int .i64 0]) ∧ Below w.heap.size w w' := by
  have hz0 := heap_alloc_new w (.cells #[.int .u64 0, .int .u32 0, .int .u32 0, .int .u32 0] 30)
  have hb0 : Below w.heap.size w (w.alloc (.cells #[.int .u64 0, .int .u32 0, .int .u32 0, .int .u32 0] 30)) := (Below.refl _ _).alloc (Nat.le_refl _) _
  have ka : (((ta : Int) % 2) == 0) = true := by simp; omega
  have kna : ((((ta % 2 : Nat) : Int)) == 0) = true := by simp; omega
  have kb : (((tb : Int) % 2) == 1) = false := by simp; omega
  have knb : ((((tb % 2 : Nat) : Int)) == 1) = false := by simp; omega
  have HZ0 := Lib.hid hz0
  clear hz0 hta htb
  go_enter Try.func22, Try.ntmps22
  go_wp2_with fail
  refine (rget_is _ la ta ea ma fa hla ha).mono ?_
  rintro r w1 ⟨rfl, hb1'⟩
  have hb1 := hb0.trans (hb1'.mono hb0.size)
  have hz1 := blk_alloc (blk_below HZ0.out hb1' (blk_lt HZ0.out)) (.cells #[.int .u64 (ta : Int), .int .u32 (ea : Int), .int .u32 (ma : Int), .int .u32 (fa : Int)] 30)
  have hx1 := heap_alloc_new w1 (.cells #[.int .u64 (ta : Int), .int .u32 (ea : Int), .int .u32 (ma : Int), .int .u32 (fa : Int)] 30)
  have hgt1 : w.heap.size < w1.heap.size := by have := hb1'.size; simp at this; omega
  have hb2 := hb1.alloc hb1.size (.cells #[.int .u64 (ta : Int), .int .u32 (ea : Int), .int .u32 (ma : Int), .int .u32 (fa : Int)] 30)
  clear hb0 hb1' HZ0 hb1
  go_wp2_with fail
  generalize w1.alloc (.cells #[.int .u64 (ta : Int), .int .u32 (ea : Int), .int .u32 (ma : Int), .int .u32 (fa : Int)] 30) = w2 at *
  generalize w1.heap.size = ga at *
  refine (rget_is _ lb tb eb mb fb hlb hb).mono ?_
  rintro r w3 ⟨rfl, hb3'⟩
  have hb3 := hb2.trans (hb3'.mono hb2.size)
  have hz3 := blk_alloc (blk_below hz1 hb3' (blk_lt hz1)) (.cells #[.int .u64 (tb : Int), .int .u32 (eb : Int), .int .u32 (mb : Int), .int .u32 (fb : Int)] 30)
  have hx3 := blk_alloc (blk_below hx1 hb3' (blk_lt hx1)) (.cells #[.int .u64 (tb : Int), .int .u32 (eb : Int), .int .u32 (mb : Int), .int .u32 (fb : Int)] 30)
  have hy3 := heap_alloc_new w3 (.cells #[.int .u64 (tb : Int), .int .u32 (eb : Int), .int .u32 (mb : Int), .int .u32 (fb : Int)] 30)
  have hb4 := hb3.alloc hb3.size (.cells #[.int .u64 (tb : Int), .int .u32 (eb : Int), .int .u32 (mb : Int), .int .u32 (fb : Int)] 30)
  obtain ⟨⟨z0, z1, z2, z3⟩, f0, f1, f2, f3⟩ := cell4 hz3
  obtain ⟨⟨x0, x1, x2, x3⟩, _⟩ := cell4 hx3
  obtain ⟨⟨y0, y1, y2, y3⟩, _⟩ := cell4 hy3
  have hbz := below4 hb4 (Nat.le_refl _) (.int .u64 (ta : Int)) (.int .u32 (ea : Int)) (.int .u32 (ma : Int)) (.int .u32 (fa : Int))
  obtain ⟨⟨t0, t1, t2, t3⟩, _⟩ := cell4 (set4 hz3 (.int .u64 (ta : Int)) (.int .u32 (ea : Int)) (.int .u32 (ma : Int)) (.int .u32 (fa : Int)))
  clear hb2 hb3 hb3' hz1 hx1 hz3 hx3 hy3 hb4
  go_wp2_with fail
  exact bodyPost_ret (v := .tuple #[.agg #[.int .u64 (ta : Int), .int .u32 (ea : Int), .int .u32 (ma : Int), .int .u32 (fa : Int)], .int .i64 0]) (by simp [results, Try.results22, go_sem, t0, t1, t2, t3]) rfl ⟨rfl, hbz⟩

set_option maxRecDepth 20000 in
set_option maxHeartbeats 1000000 in
theorem rch_ge (w : World) (la lb : List UInt8) (hla : la.length ≤ 140737488355328) (hlb : lb.length ≤ 140737488355328) (ta ea ma fa : Nat) (bta : ta < 18446744073709551616) (hta : ta % 2 = 0) (ha : Hid (mGet la = (some (ta, ea, ma, fa), 0))) (Eb : Int) (hEb : (Eb == 0) = false) (hb : Hid (mGet lb = (none, Eb)))  :
    Calls Try.prog 22 #[.string (st la), .string (st lb)] w fun r w' => r = .returned (.tuple #[.agg #[.int .u64 (ta : Int), .int .u32 (ea : Int), .int .u32 (ma : Int), .int .u32 (fa : Int)], .int .i64 0]) ∧ Below w.heap.size w w' := by
  have hz0 := heap_alloc_new w (.cells #[.int .u64 0, .int .u32 0, .int .u32 0, .int .u32 0] 30)
  have hb0 : Below w.heap.size w (w.alloc (.cells #[.int .u64 0, .int .u32 0, .int .u32 0, .int .u32 0] 30)) := (Below.refl _ _).alloc (Nat.le_refl _) _
  have ka : (((ta : Int) % 2) == 0) = true := by simp; omega
  have kna : ((((ta % 2 : Nat) : Int)) == 0) = true := by simp; omega
  have HZ0 := Lib.hid hz0
  clear hz0 hta
  go_enter Try.func22, Try.ntmps22
  go_wp2_with fail
  refine (rget_is _ la ta ea ma fa hla ha).mono ?_
  rintro r w1 ⟨rfl, hb1'⟩
  have hb1 := hb0.trans (hb1'.mono hb0.size)
  have hz1 := blk_alloc (blk_below HZ0.out hb1' (blk_lt HZ0.out)) (.cells #[.int .u64 (ta : Int), .int .u32 (ea : Int), .int .u32 (ma : Int), .int .u32 (fa : Int)] 30)
  have hx1 := heap_alloc_new w1 (.cells #[.int .u64 (ta : Int), .int .u32 (ea : Int), .int .u32 (ma : Int), .int .u32 (fa : Int)] 30)
  have hgt1 : w.heap.size < w1.heap.size := by have := hb1'.size; simp at this; omega
  have hb2 := hb1.alloc hb1.size (.cells #[.int .u64 (ta : Int), .int .u32 (ea : Int), .int .u32 (ma : Int), .int .u32 (fa : Int)] 30)
  clear hb0 hb1' HZ0 hb1
  go_wp2_with fail
  generalize w1.alloc (.cells #[.int .u64 (ta : Int), .int .u32 (ea : Int), .int .u32 (ma : Int), .int .u32 (fa : Int)] 30) = w2 at *
  generalize w1.heap.size = ga at *
  refine (rget_none _ lb Eb hlb hb).mono ?_
  rintro r w3 ⟨rfl, hb3'⟩
  have hb3 := hb2.trans (hb3'.mono hb2.size)
  have hz3 := blk_alloc (blk_below hz1 hb3' (blk_lt hz1)) (.cells #[.int .u64 0, .int .u32 0, .int .u32 0, .int .u32 0] 30)
  have hx3 := blk_alloc (blk_below hx1 hb3' (blk_lt hx1)) (.cells #[.int .u64 0, .int .u32 0, .int .u32 0, .int .u32 0] 30)
  have hy3 := heap_alloc_new w3 (.cells #[.int .u64 0, .int .u32 0, .int .u32 0, .int .u32 0] 30)
  have hb4 := hb3.alloc hb3.size (.cells #[.int .u64 0, .int .u32 0, .int .u32 0, .int .u32 0] 30)
  obtain ⟨⟨z0, z1, z2, z3⟩, f0, f1, f2, f3⟩ := cell4 hz3
  obtain ⟨⟨x0, x1, x2, x3⟩, _⟩ := cell4 hx3
  obtain ⟨⟨y0, y1, y2, y3⟩, _⟩ := cell4 hy3
  have hbz := below4 hb4 (Nat.le_refl _) (.int .u64 (ta : Int)) (.int .u32 (ea : Int)) (.int .u32 (ma : Int)) (.int .u32 (fa : Int))
  obtain ⟨⟨t0, t1, t2, t3⟩, _⟩ := cell4 (set4 hz3 (.int .u64 (ta : Int)) (.int .u32 (ea : Int)) (.int .u32 (ma : Int)) (.int .u32 (fa : Int)))
  clear hb2 hb3 hb3' hz1 hx1 hz3 hx3 hy3 hb4
  go_wp2_with fail
  exact bodyPost_ret (v := .tuple #[.agg #[.int .u64 (ta : Int), .int .u32 (ea : Int), .int .u32 (ma : Int), .int .u32 (fa : Int)], .int .i64 0]) (by simp [results, Try.results22, go_sem, t0, t1, t2, t3]) rfl ⟨rfl, hbz⟩

set_option maxRecDepth 20000 in
set_option maxHeartbeats 1000000 in
theorem rch_bg (w : World) (la lb : List UInt8) (hla : la.length ≤ 140737488355328) (hlb : lb.length ≤ 140737488355328) (ta ea ma fa : Nat) (bta : ta < 18446744073709551616) (hta : ta % 2 = 1) (ha : Hid (mGet la = (some (ta, ea, ma, fa), 0))) (tb eb mb fb : Nat) (btb : tb < 18446744073709551616) (htb : tb % 2 = 1) (hb : Hid (mGet lb = (some (tb, eb, mb, fb), 0)))  :
    Calls Try.prog 22 #[.string (st la), .string (st lb)] w fun r w' => r = .returned (.tuple #[.agg #[.int .u64 (tb : Int), .int .u32 (eb : Int), .int .u32 (mb : Int), .int .u32 (fb : Int)], .int .i64 0]) ∧ Below w.heap.size w w' := by
  have hz0 := heap_alloc_new w (.cells #[.int .u64 0, .int .u32 0, .int .u32 0, .int .u32 0] 30)
  have hb0 : Below w.heap.size w (w.alloc (.cells #[.int .u64 0, .int .u32 0, .int .u32 0, .int .u32 0] 30)) := (Below.refl _ _).alloc (Nat.le_refl _) _
  have ka : (((ta : Int) % 2) == 0) = false := by simp; omega
  have kna : ((((ta % 2 : Nat) : Int)) == 0) = false := by simp; omega
  have kb : (((tb : Int) % 2) == 1) = true := by simp; omega
  have knb : ((((tb % 2 : Nat) : Int)) == 1) = true := by simp; omega
  have HZ0 := Lib.hid hz0
  clear hz0 hta htb
  go_enter Try.func22, Try.ntmps22
  go_wp2_with fail
  refine (rget_is _ la ta ea ma fa hla ha).mono ?_
  rintro r w1 ⟨rfl, hb1'⟩
  have hb1 := hb0.trans (hb1'.mono hb0.size)
  have hz1 := blk_alloc (blk_below HZ0.out hb1' (blk_lt HZ0.out)) (.cells #[.int .u64 (ta : Int), .int .u32 (ea : Int), .int .u32 (ma : Int), .int .u32 (fa : Int)] 30)
  have hx1 := heap_alloc_new w1 (.cells #[.int .u64 (ta : Int), .int .u32 (ea : Int), .int .u32 (ma : Int), .int .u32 (fa : Int)] 30)
  have hgt1 : w.heap.size < w1.heap.size := by have := hb1'.size; simp at this; omega
  have hb2 := hb1.alloc hb1.size (.cells #[.int .u64 (ta : Int), .int .u32 (ea : Int), .int .u32 (ma : Int), .int .u32 (fa : Int)] 30)
  clear hb0 hb1' HZ0 hb1
  go_wp2_with fail
  generalize w1.alloc (.cells #[.int .u64 (ta : Int), .int .u32 (ea : Int), .int .u32 (ma : Int), .int .u32 (fa : Int)] 30) = w2 at *
  generalize w1.heap.size = ga at *
  refine (rget_is _ lb tb eb mb fb hlb hb).mono ?_
  rintro r w3 ⟨rfl, hb3'⟩
  have hb3 := hb2.trans (hb3'.mono hb2.size)
  have hz3 := blk_alloc (blk_below hz1 hb3' (blk_lt hz1)) (.cells #[.int .u64 (tb : Int), .int .u32 (eb : Int), .int .u32 (mb : Int), .int .u32 (fb : Int)] 30)
  have hx3 := blk_alloc (blk_below hx1 hb3' (blk_lt hx1)) (.cells #[.int .u64 (tb : Int), .int .u32 (eb : Int), .int .u32 (mb : Int), .int .u32 (fb : Int)] 30)
  have hy3 := heap_alloc_new w3 (.cells #[.int .u64 (tb : Int), .int .u32 (eb : Int), .int .u32 (mb : Int), .int .u32 (fb : Int)] 30)
  have hb4 := hb3.alloc hb3.size (.cells #[.int .u64 (tb : Int), .int .u32 (eb : Int), .int .u32 (mb : Int), .int .u32 (fb : Int)] 30)
  obtain ⟨⟨z0, z1, z2, z3⟩, f0, f1, f2, f3⟩ := cell4 hz3
  obtain ⟨⟨x0, x1, x2, x3⟩, _⟩ := cell4 hx3
  obtain ⟨⟨y0, y1, y2, y3⟩, _⟩ := cell4 hy3
  have hbz := below4 hb4 (Nat.le_refl _) (.int .u64 (tb : Int)) (.int .u32 (eb : Int)) (.int .u32 (mb : Int)) (.int .u32 (fb : Int))
  obtain ⟨⟨t0, t1, t2, t3⟩, _⟩ := cell4 (set4 hz3 (.int .u64 (tb : Int)) (.int .u32 (eb : Int)) (.int .u32 (mb : Int)) (.int .u32 (fb : Int)))
  clear hb2 hb3 hb3' hz1 hx1 hz3 hx3 hy3 hb4
  go_wp2_with fail
  exact bodyPost_ret (v := .tuple #[.agg #[.int .u64 (tb : Int), .int .u32 (eb : Int), .int .u32 (mb : Int), .int .u32 (fb : Int)], .int .i64 0]) (by simp [results, Try.results22, go_sem, t0, t1, t2, t3]) rfl ⟨rfl, hbz⟩

set_option maxRecDepth 20000 in
set_option maxHeartbeats 1000000 in
theorem rch_bb (w : World) (la lb : List UInt8) (hla : la.length ≤ 140737488355328) (hlb : lb.length ≤ 140737488355328) (ta ea ma fa : Nat) (bta : ta < 18446744073709551616) (hta : ta % 2 = 1) (ha : Hid (mGet la = (some (ta, ea, ma, fa), 0))) (tb eb mb fb : Nat) (btb : tb < 18446744073709551616) (htb : tb % 2 = 0) (hb : Hid (mGet lb = (some (tb, eb, mb, fb), 0)))  :
    Calls Try.prog 22 #[.string (st la), .string (st lb)] w fun r w' => r = .returned (.tuple #[.agg #[.int .u64 0, .int .u32 0, .int .u32 0, .int .u32 0], .int .i64 24]) ∧ Below w.heap.size w w' := by
  have hz0 := heap_alloc_new w (.cells #[.int .u64 0, .int .u32 0, .int .u32 0, .int .u32 0] 30)
  have hb0 : Below w.heap.size w (w.alloc (.cells #[.int .u64 0, .int .u32 0, .int .u32 0, .int .u32 0] 30)) := (Below.refl _ _).alloc (Nat.le_refl _) _
  have ka : (((ta : Int) % 2) == 0) = false := by simp; omega
  have kna : ((((ta % 2 : Nat) : Int)) == 0) = false := by simp; omega
  have kb : (((tb : Int) % 2) == 1) = false := by simp; omega
  have knb : ((((tb % 2 : Nat) : Int)) == 1) = false := by simp; omega
  have HZ0 := Lib.hid hz0
  clear hz0 hta htb
  go_enter Try.func22, Try.ntmps22
  go_wp2_with fail
  refine (rget_is _ la ta ea ma fa hla ha).mono ?_
  rintro r w1 ⟨rfl, hb1'⟩
  have hb1 := hb0.trans (hb1'.mono hb0.size)
  have hz1 := blk_alloc (blk_below HZ0.out hb1' (blk_lt HZ0.out)) (.cells #[.int .u64 (ta : Int), .int .u32 (ea : Int), .int .u32 (ma : Int), .int .u32 (fa : Int)] 30)
  have hx1 := heap_alloc_new w1 (.cells #[.int .u64 (ta : Int), .int .u32 (ea : Int), .int .u32 (ma : Int), .int .u32 (fa : Int)] 30)
  have hgt1 : w.heap.size < w1.heap.size := by have := hb1'.size; simp at this; omega
  have hb2 := hb1.alloc hb1.size (.cells #[.int .u64 (ta : Int), .int .u32 (ea : Int), .int .u32 (ma : Int), .int .u32 (fa : Int)] 30)
  clear hb0 hb1' HZ0 hb1
  go_wp2_with fail
  generalize w1.alloc (.cells #[.int .u64 (ta : Int), .int .u32 (ea : Int), .int .u32 (ma : Int), .int .u32 (fa : Int)] 30) = w2 at *
  generalize w1.heap.size = ga at *
  refine (rget_is _ lb tb eb mb fb hlb hb).mono ?_
  rintro r w3 ⟨rfl, hb3'⟩
  have hb3 := hb2.trans (hb3'.mono hb2.size)
  have hz3 := blk_alloc (blk_below hz1 hb3' (blk_lt hz1)) (.cells #[.int .u64 (tb : Int), .int .u32 (eb : Int), .int .u32 (mb : Int), .int .u32 (fb : Int)] 30)
  have hx3 := blk_alloc (blk_below hx1 hb3' (blk_lt hx1)) (.cells #[.int .u64 (tb : Int), .int .u32 (eb : Int), .int .u32 (mb : Int), .int .u32 (fb : Int)] 30)
  have hy3 := heap_alloc_new w3 (.cells #[.int .u64 (tb : Int), .int .u32 (eb : Int), .int .u32 (mb : Int), .int .u32 (fb : Int)] 30)
  have hb4 := hb3.alloc hb3.size (.cells #[.int .u64 (tb : Int), .int .u32 (eb : Int), .int .u32 (mb : Int), .int .u32 (fb : Int)] 30)
  obtain ⟨⟨z0, z1, z2, z3⟩, f0, f1, f2, f3⟩ := cell4 hz3
  obtain ⟨⟨x0, x1, x2, x3⟩, _⟩ := cell4 hx3
  obtain ⟨⟨y0, y1, y2, y3⟩, _⟩ := cell4 hy3
  have hbz := below4 hb4 (Nat.le_refl _) (.int .u64 0) (.int .u32 0) (.int .u32 0) (.int .u32 0)
  obtain ⟨⟨t0, t1, t2, t3⟩, _⟩ := cell4 (set4 hz3 (.int .u64 0) (.int .u32 0) (.int .u32 0) (.int .u32 0))
  clear hb2 hb3 hb3' hz1 hx1 hz3 hx3 hy3 hb4
  go_wp2_with fail
  exact bodyPost_ret (v := .tuple #[.agg #[.int .u64 0, .int .u32 0, .int .u32 0, .int .u32 0], .int .i64 24]) (by simp [results, Try.results22, go_sem, t0, t1, t2, t3]) rfl ⟨rfl, hbz⟩

set_option maxRecDepth 20000 in
set_option maxHeartbeats 1000000 in
theorem rch_be (w : World) (la lb : List UInt8) (hla : la.length ≤ 140737488355328) (hlb : lb.length ≤ 140737488355328) (ta ea ma fa : Nat) (bta : ta < 18446744073709551616) (hta : ta % 2 = 1) (ha : Hid (mGet la = (some (ta, ea, ma, fa), 0))) (Eb : Int) (hEb : (Eb == 0) = false) (hb : Hid (mGet lb = (none, Eb)))  :
    Calls Try.prog 22 #[.string (st la), .string (st lb)] w fun r w' => r = .returned (.tuple #[.agg #[.int .u64 0, .int .u32 0, .int .u32 0, .int .u32 0], .int .i64 24]) ∧ Below w.heap.size w w' := by
  have hz0 := heap_alloc_new w (.cells #[.int .u64 0, .int .u32 0, .int .u32 0, .int .u32 0] 30)
  have hb0 : Below w.heap.size w (w.alloc (.cells #[.int .u64 0, .int .u32 0, .int .u32 0, .int .u32 0] 30)) := (Below.refl _ _).alloc (Nat.le_refl _) _
  have ka : (((ta : Int) % 2) == 0) = false := by simp; omega
  have kna : ((((ta % 2 : Nat) : Int)) == 0) = false := by simp; omega
  have HZ0 := Lib.hid hz0
  clear hz0 hta
  go_enter Try.func22, Try.ntmps22
  go_wp2_with fail
  refine (rget_is _ la ta ea ma fa hla ha).mono ?_
  rintro r w1 ⟨rfl, hb1'⟩
  have hb1 := hb0.trans (hb1'.mono hb0.size)
  have hz1 := blk_alloc (blk_below HZ0.out hb1' (blk_lt HZ0.out)) (.cells #[.int .u64 (ta : Int), .int .u32 (ea : Int), .int .u32 (ma : Int), .int .u32 (fa : Int)] 30)
  have hx1 := heap_alloc_new w1 (.cells #[.int .u64 (ta : Int), .int .u32 (ea : Int), .int .u32 (ma : Int), .int .u32 (fa : Int)] 30)
  have hgt1 : w.heap.size < w1.heap.size := by have := hb1'.size; simp at this; omega
  have hb2 := hb1.alloc hb1.size (.cells #[.int .u64 (ta : Int), .int .u32 (ea : Int), .int .u32 (ma : Int), .int .u32 (fa : Int)] 30)
  clear hb0 hb1' HZ0 hb1
  go_wp2_with fail
  generalize w1.alloc (.cells #[.int .u64 (ta : Int), .int .u32 (ea : Int), .int .u32 (ma : Int), .int .u32 (fa : Int)] 30) = w2 at *
  generalize w1.heap.size = ga at *
  refine (rget_none _ lb Eb hlb hb).mono ?_
  rintro r w3 ⟨rfl, hb3'⟩
  have hb3 := hb2.trans (hb3'.mono hb2.size)
  have hz3 := blk_alloc (blk_below hz1 hb3' (blk_lt hz1)) (.cells #[.int .u64 0, .int .u32 0, .int .u32 0, .int .u32 0] 30)
  have hx3 := blk_alloc (blk_below hx1 hb3' (blk_lt hx1)) (.cells #[.int .u64 0, .int .u32 0, .int .u32 0, .int .u32 0] 30)
  have hy3 := heap_alloc_new w3 (.cells #[.int .u64 0, .int .u32 0, .int .u32 0, .int .u32 0] 30)
  have hb4 := hb3.alloc hb3.size (.cells #[.int .u64 0, .int .u32 0, .int .u32 0, .int .u32 0] 30)
  obtain ⟨⟨z0, z1, z2, z3⟩, f0, f1, f2, f3⟩ := cell4 hz3
  obtain ⟨⟨x0, x1, x2, x3⟩, _⟩ := cell4 hx3
  obtain ⟨⟨y0, y1, y2, y3⟩, _⟩ := cell4 hy3
  have hbz := below4 hb4 (Nat.le_refl _) (.int .u64 0) (.int .u32 0) (.int .u32 0) (.int .u32 0)
  obtain ⟨⟨t0, t1, t2, t3⟩, _⟩ := cell4 (set4 hz3 (.int .u64 0) (.int .u32 0) (.int .u32 0) (.int .u32 0))
  clear hb2 hb3 hb3' hz1 hx1 hz3 hx3 hy3 hb4
  go_wp2_with fail
  exact bodyPost_ret (v := .tuple #[.agg #[.int .u64 0, .int .u32 0, .int .u32 0, .int .u32 0], .int .i64 24]) (by simp [results, Try.results22, go_sem, t0, t1, t2, t3]) rfl ⟨rfl, hbz⟩

set_option maxRecDepth 20000 in
set_option maxHeartbeats 1000000 in
theorem rch_eg (w : World) (la lb : List UInt8) (hla : la.length ≤ 140737488355328) (hlb : lb.length ≤ 140737488355328) (Ea : Int) (hEa : (Ea == 0) = false) (ha : Hid (mGet la = (none, Ea))) (tb eb mb fb : Nat) (btb : tb < 18446744073709551616) (htb : tb % 2 = 1) (hb : Hid (mGet lb = (some (tb, eb, mb, fb), 0)))  :
    Calls Try.prog 22 #[.string (st la), .string (st lb)] w fun r w' => r = .returned (.tuple #[.agg #[.int .u64 (tb : Int), .int .u32 (eb : Int), .int .u32 (mb : Int), .int .u32 (fb : Int)], .int .i64 0]) ∧ Below w.heap.size w w' := by
  have hz0 := heap_alloc_new w (.cells #[.int .u64 0, .int .u32 0, .int .u32 0, .int .u32 0] 30)
  have hb0 : Below w.heap.size w (w.alloc (.cells #[.int .u64 0, .int .u32 0, .int .u32 0, .int .u32 0] 30)) := (Below.refl _ _).alloc (Nat.le_refl _) _
  have kb : (((tb : Int) % 2) == 1) = true := by simp; omega
  have knb : ((((tb % 2 : Nat) : Int)) == 1) = true := by simp; omega
  have HZ0 := Lib.hid hz0
  clear hz0 htb
  go_enter Try.func22, Try.ntmps22
  go_wp2_with fail
  refine (rget_none _ la Ea hla ha).mono ?_
  rintro r w1 ⟨rfl, hb1'⟩
  have hb1 := hb0.trans (hb1'.mono hb0.size)
  have hz1 := blk_alloc (blk_below HZ0.out hb1' (blk_lt HZ0.out)) (.cells #[.int .u64 0, .int .u32 0, .int .u32 0, .int .u32 0] 30)
  have hx1 := heap_alloc_new w1 (.cells #[.int .u64 0, .int .u32 0, .int .u32 0, .int .u32 0] 30)
  have hgt1 : w.heap.size < w1.heap.size := by have := hb1'.size; simp at this; omega
  have hb2 := hb1.alloc hb1.size (.cells #[.int .u64 0, .int .u32 0, .int .u32 0, .int .u32 0] 30)
  clear hb0 hb1' HZ0 hb1
  go_wp2_with fail
  generalize w1.alloc (.cells #[.int .u64 0, .int .u32 0, .int .u32 0, .int .u32 0] 30) = w2 at *
  generalize w1.heap.size = ga at *
  refine (rget_is _ lb tb eb mb fb hlb hb).mono ?_
  rintro r w3 ⟨rfl, hb3'⟩
  have hb3 := hb2.trans (hb3'.mono hb2.size)
  have hz3 := blk_alloc (blk_below hz1 hb3' (blk_lt hz1)) (.cells #[.int .u64 (tb : Int), .int .u32 (eb : Int), .int .u32 (mb : Int), .int .u32 (fb : Int)] 30)
  have hx3 := blk_alloc (blk_below hx1 hb3' (blk_lt hx1)) (.cells #[.int .u64 (tb : Int), .int .u32 (eb : Int), .int .u32 (mb : Int), .int .u32 (fb : Int)] 30)
  have hy3 := heap_alloc_new w3 (.cells #[.int .u64 (tb : Int), .int .u32 (eb : Int), .int .u32 (mb : Int), .int .u32 (fb : Int)] 30)
  have hb4 := hb3.alloc hb3.size (.cells #[.int .u64 (tb : Int), .int .u32 (eb : Int), .int .u32 (mb : Int), .int .u32 (fb : Int)] 30)
  obtain ⟨⟨z0, z1, z2, z3⟩, f0, f1, f2, f3⟩ := cell4 hz3
  obtain ⟨⟨x0, x1, x2, x3⟩, _⟩ := cell4 hx3
  obtain ⟨⟨y0, y1, y2, y3⟩, _⟩ := cell4 hy3
  have hbz := below4 hb4 (Nat.le_refl _) (.int .u64 (tb : Int)) (.int .u32 (eb : Int)) (.int .u32 (mb : Int)) (.int .u32 (fb : Int))
  obtain ⟨⟨t0, t1, t2, t3⟩, _⟩ := cell4 (set4 hz3 (.int .u64 (tb : Int)) (.int .u32 (eb : Int)) (.int .u32 (mb : Int)) (.int .u32 (fb : Int)))
  clear hb2 hb3 hb3' hz1 hx1 hz3 hx3 hy3 hb4
  go_wp2_with fail
  exact bodyPost_ret (v := .tuple #[.agg #[.int .u64 (tb : Int), .int .u32 (eb : Int), .int .u32 (mb : Int), .int .u32 (fb : Int)], .int .i64 0]) (by simp [results, Try.results22, go_sem, t0, t1, t2, t3]) rfl ⟨rfl, hbz⟩

set_option maxRecDepth 20000 in
set_option maxHeartbeats 1000000 in
theorem rch_eb (w : World) (la lb : List UInt8) (hla : la.length ≤ 140737488355328) (hlb : lb.length ≤ 140737488355328) (Ea : Int) (hEa : (Ea == 0) = false) (ha : Hid (mGet la = (none, Ea))) (tb eb mb fb : Nat) (btb : tb < 18446744073709551616) (htb : tb % 2 = 0) (hb : Hid (mGet lb = (some (tb, eb, mb, fb), 0)))  :
    Calls Try.prog 22 #[.string (st la), .string (st lb)] w fun r w' => r = .returned (.tuple #[.agg #[.int .u64 0, .int .u32 0, .int .u32 0, .int .u32 0], .int .i64 24]) ∧ Below w.heap.size w w' := by
  have hz0 := heap_alloc_new w (.cells #[.int .u64 0, .int .u32 0, .int .u32 0, .int .u32 0] 30)
  have hb0 : Below w.heap.size w (w.alloc (.cells #[.int .u64 0, .int .u32 0, .int .u32 0, .int .u32 0] 30)) := (Below.refl _ _).alloc (Nat.le_refl _) _
  have kb : (((tb : Int) % 2) == 1) = false := by simp; omega
  have knb : ((((tb % 2 : Nat) : Int)) == 1) = false := by simp; omega
  have HZ0 := Lib.hid hz0
  clear hz0 htb
  go_enter Try.func22, Try.ntmps22
  go_wp2_with fail
  refine (rget_none _ la Ea hla ha).mono ?_
  rintro r w1 ⟨rfl, hb1'⟩
  have hb1 := hb0.trans (hb1'.mono hb0.size)
  have hz1 := blk_alloc (blk_below HZ0.out hb1' (blk_lt HZ0.out)) (.cells #[.int .u64 0, .int .u32 0, .int .u32 0, .int .u32 0] 30)
  have hx1 := heap_alloc_new w1 (.cells #[.int .u64 0, .int .u32 0, .int .u32 0, .int .u32 0] 30)
  have hgt1 : w.heap.size < w1.heap.size := by have := hb1'.size; simp at this; omega
  have hb2 := hb1.alloc hb1.size (.cells #[.int .u64 0, .int .u32 0, .int .u32 0, .int .u32 0] 30)
  clear hb0 hb1' HZ0 hb1
  go_wp2_with fail
  generalize w1.alloc (.cells #[.int .u64 0, .int .u32 0, .int .u32 0, .int .u32 0] 30) = w2 at *
  generalize w1.heap.size = ga at *
  refine (rget_is _ lb tb eb mb fb hlb hb).mono ?_
  rintro r w3 ⟨rfl, hb3'⟩
  have hb3 := hb2.trans (hb3'.mono hb2.size)
  have hz3 := blk_alloc (blk_below hz1 hb3' (blk_lt hz1)) (.cells #[.int .u64 (tb : Int), .int .u32 (eb : Int), .int .u32 (mb : Int), .int .u32 (fb : Int)] 30)
  have hx3 := blk_alloc (blk_below hx1 hb3' (blk_lt hx1)) (.cells #[.int .u64 (tb : Int), .int .u32 (eb : Int), .int .u32 (mb : Int), .int .u32 (fb : Int)] 30)
  have hy3 := heap_alloc_new w3 (.cells #[.int .u64 (tb : Int), .int .u32 (eb : Int), .int .u32 (mb : Int), .int .u32 (fb : Int)] 30)
  have hb4 := hb3.alloc hb3.size (.cells #[.int .u64 (tb : Int), .int .u32 (eb : Int), .int .u32 (mb : Int), .int .u32 (fb : Int)] 30)
  obtain ⟨⟨z0, z1, z2, z3⟩, f0, f1, f2, f3⟩ := cell4 hz3
  obtain ⟨⟨x0, x1, x2, x3⟩, _⟩ := cell4 hx3
  obtain ⟨⟨y0, y1, y2, y3⟩, _⟩ := cell4 hy3
  have hbz := below4 hb4 (Nat.le_refl _) (.int .u64 0) (.int .u32 0) (.int .u32 0) (.int .u32 0)
  obtain ⟨⟨t0, t1, t2, t3⟩, _⟩ := cell4 (set4 hz3 (.int .u64 0) (.int .u32 0) (.int .u32 0) (.int .u32 0))
  clear hb2 hb3 hb3' hz1 hx1 hz3 hx3 hy3 hb4
  go_wp2_with fail
  exact bodyPost_ret (v := .tuple #[.agg #[.int .u64 0, .int .u32 0, .int .u32 0, .int .u32 0], .int .i64 24]) (by simp [results, Try.results22, go_sem, t0, t1, t2, t3]) rfl ⟨rfl, hbz⟩

set_option maxRecDepth 20000 in
set_option maxHeartbeats 1000000 in
theorem rch_ee (w : World) (la lb : List UInt8) (hla : la.length ≤ 140737488355328) (hlb : lb.length ≤ 140737488355328) (Ea : Int) (hEa : (Ea == 0) = false) (ha : Hid (mGet la = (none, Ea))) (Eb : Int) (hEb : (Eb == 0) = false) (hb : Hid (mGet lb = (none, Eb)))  :
    Calls Try.prog 22 #[.string (st la), .string (st lb)] w fun r w' => r = .returned (.tuple #[.agg #[.int .u64 0, .int .u32 0, .int .u32 0, .int .u32 0], .int .i64 24]) ∧ Below w.heap.size w w' := by
  have hz0 := heap_alloc_new w (.cells #[.int .u64 0, .int .u32 0, .int .u32 0, .int .u32 0] 30)
  have hb0 : Below w.heap.size w (w.alloc (.cells #[.int .u64 0, .int .u32 0, .int .u32 0, .int .u32 0] 30)) := (Below.refl _ _).alloc (Nat.le_refl _) _
  have HZ0 := Lib.hid hz0
  clear hz0 
  go_enter Try.func22, Try.ntmps22
  go_wp2_with fail
  refine (rget_none _ la Ea hla ha).mono ?_
  rintro r w1 ⟨rfl, hb1'⟩
  have hb1 := hb0.trans (hb1'.mono hb0.size)
  have hz1 := blk_alloc (blk_below HZ0.out hb1' (blk_lt HZ0.out)) (.cells #[.int .u64 0, .int .u32 0, .int .u32 0, .int .u32 0] 30)
  have hx1 := heap_alloc_new w1 (.cells #[.int .u64 0, .int .u32 0, .int .u32 0, .int .u32 0] 30)
  have hgt1 : w.heap.size < w1.heap.size := by have := hb1'.size; simp at this; omega
  have hb2 := hb1.alloc hb1.size (.cells #[.int .u64 0, .int .u32 0, .int .u32 0, .int .u32 0] 30)
  clear hb0 hb1' HZ0 hb1
  go_wp2_with fail
  generalize w1.alloc (.cells #[.int .u64 0, .int .u32 0, .int .u32 0, .int .u32 0] 30) = w2 at *
  generalize w1.heap.size = ga at *
  refine (rget_none _ lb Eb hlb hb).mono ?_
  rintro r w3 ⟨rfl, hb3'⟩
  have hb3 := hb2.trans (hb3'.mono hb2.size)
  have hz3 := blk_alloc (blk_below hz1 hb3' (blk_lt hz1)) (.cells #[.int .u64 0, .int .u32 0, .int .u32 0, .int .u32 0] 30)
  have hx3 := blk_alloc (blk_below hx1 hb3' (blk_lt hx1)) (.cells #[.int .u64 0, .int .u32 0, .int .u32 0, .int .u32 0] 30)
  have hy3 := heap_alloc_new w3 (.cells #[.int .u64 0, .int .u32 0, .int .u32 0, .int .u32 0] 30)
  have hb4 := hb3.alloc hb3.size (.cells #[.int .u64 0, .int .u32 0, .int .u32 0, .int .u32 0] 30)
  obtain ⟨⟨z0, z1, z2, z3⟩, f0, f1, f2, f3⟩ := cell4 hz3
  obtain ⟨⟨x0, x1, x2, x3⟩, _⟩ := cell4 hx3
  obtain ⟨⟨y0, y1, y2, y3⟩, _⟩ := cell4 hy3
  have hbz := below4 hb4 (Nat.le_refl _) (.int .u64 0) (.int .u32 0) (.int .u32 0) (.int .u32 0)
  obtain ⟨⟨t0, t1, t2, t3⟩, _⟩ := cell4 (set4 hz3 (.int .u64 0) (.int .u32 0) (.int .u32 0) (.int .u32 0))
  clear hb2 hb3 hb3' hz1 hx1 hz3 hx3 hy3 hb4
  go_wp2_with fail
  exact bodyPost_ret (v := .tuple #[.agg #[.int .u64 0, .int .u32 0, .int .u32 0, .int .u32 0], .int .i64 24]) (by simp [results, Try.results22, go_sem, t0, t1, t2, t3]) rfl ⟨rfl, hbz⟩

theorem mStep_is (i : Nat) (l : List UInt8) (o : M4) (t e m f : Nat) (h : mGet l = (some (t, e, m, f), 0)) : mStep i l o = if t % 2 = i ∧ o.1 < t then (t, e, m, f) else o := by
  unfold mStep
  rw [h]
  simp
theorem mStep_no (i : Nat) (l : List UInt8) (o : M4) (E : Int) (h : mGet l = (none, E)) : mStep i l o = o := by
  unfold mStep
  rw [h]
/-- What the reference's Choose tells is what the program's does. -/
theorem rchoose_any (w : World) (la lb : List UInt8) (hla : la.length ≤ 140737488355328) (hlb : lb.length ≤ 140737488355328) :
    Calls Try.prog 22 #[.string (st la), .string (st lb)] w fun r w' => r = .returned (.tuple #[.agg (mCells (mChosen la lb)), .int .i64 (if (mChosen la lb).1 = 0 then 24 else 0)]) ∧ Below w.heap.size w w' := by
  unfold mChosen
  rcases mGet_cases la with ⟨ta, ea, ma, fa, ha, hRa, bta, _⟩ | ⟨Ea, ha, hEa⟩ <;> rcases mGet_cases lb with ⟨tb, eb, mb, fb, hb, hRb, btb, _⟩ | ⟨Eb, hb, hEb⟩
  · have pa : 0 < ta := hRa.2.2.1
    have pb : 0 < tb := hRb.2.2.1
    rw [mStep_is 1 lb _ tb eb mb fb hb, mStep_is 0 la _ ta ea ma fa ha]
    by_cases ga : ta % 2 = 0
    · rw [show (if ta % 2 = 0 ∧ ((0, 0, 0, 0) : M4).1 < ta then (ta, ea, ma, fa) else (0, 0, 0, 0)) = (ta, ea, ma, fa) from if_pos ⟨ga, pa⟩]
      by_cases gb : tb % 2 = 1
      · by_cases hgt : tb < ta
        · rw [show (if tb % 2 = 1 ∧ ((ta, ea, ma, fa) : M4).1 < tb then (tb, eb, mb, fb) else (ta, ea, ma, fa)) = (ta, ea, ma, fa) from if_neg (fun h => by have := h.2; simp at this; omega), show (if ((ta, ea, ma, fa) : M4).1 = 0 then (24 : Int) else 0) = 0 from if_neg (by show ¬ ta = 0; omega)]
          exact rch_gga w la lb hla hlb ta ea ma fa bta ga (Lib.hid ha) tb eb mb fb btb gb (Lib.hid hb) hgt
        · rw [show (if tb % 2 = 1 ∧ ((ta, ea, ma, fa) : M4).1 < tb then (tb, eb, mb, fb) else (ta, ea, ma, fa)) = (tb, eb, mb, fb) from if_pos ⟨gb, by show ta < tb; omega⟩, show (if ((tb, eb, mb, fb) : M4).1 = 0 then (24 : Int) else 0) = 0 from if_neg (by show ¬ tb = 0; omega)]
          exact rch_ggb w la lb hla hlb ta ea ma fa bta ga (Lib.hid ha) tb eb mb fb btb gb (Lib.hid hb) hgt
      · rw [show (if tb % 2 = 1 ∧ ((ta, ea, ma, fa) : M4).1 < tb then (tb, eb, mb, fb) else (ta, ea, ma, fa)) = (ta, ea, ma, fa) from if_neg (fun h => gb h.1), show (if ((ta, ea, ma, fa) : M4).1 = 0 then (24 : Int) else 0) = 0 from if_neg (by show ¬ ta = 0; omega)]
        exact rch_gb w la lb hla hlb ta ea ma fa bta ga (Lib.hid ha) tb eb mb fb btb (by omega) (Lib.hid hb)
    · rw [show (if ta % 2 = 0 ∧ ((0, 0, 0, 0) : M4).1 < ta then (ta, ea, ma, fa) else (0, 0, 0, 0)) = (0, 0, 0, 0) from if_neg (fun h => ga h.1)]
      by_cases gb : tb % 2 = 1
      · rw [show (if tb % 2 = 1 ∧ ((0, 0, 0, 0) : M4).1 < tb then (tb, eb, mb, fb) else (0, 0, 0, 0)) = (tb, eb, mb, fb) from if_pos ⟨gb, pb⟩, show (if ((tb, eb, mb, fb) : M4).1 = 0 then (24 : Int) else 0) = 0 from if_neg (by show ¬ tb = 0; omega)]
        exact rch_bg w la lb hla hlb ta ea ma fa bta (by omega) (Lib.hid ha) tb eb mb fb btb gb (Lib.hid hb)
      · rw [show (if tb % 2 = 1 ∧ ((0, 0, 0, 0) : M4).1 < tb then (tb, eb, mb, fb) else (0, 0, 0, 0)) = (0, 0, 0, 0) from if_neg (fun h => gb h.1)]
        exact rch_bb w la lb hla hlb ta ea ma fa bta (by omega) (Lib.hid ha) tb eb mb fb btb (by omega) (Lib.hid hb)
  · have pa : 0 < ta := hRa.2.2.1
    have nb : (Eb == 0) = false := by rcases hEb with rfl | rfl <;> rfl
    rw [mStep_no 1 lb _ Eb hb, mStep_is 0 la _ ta ea ma fa ha]
    by_cases ga : ta % 2 = 0
    · rw [show (if ta % 2 = 0 ∧ ((0, 0, 0, 0) : M4).1 < ta then (ta, ea, ma, fa) else (0, 0, 0, 0)) = (ta, ea, ma, fa) from if_pos ⟨ga, pa⟩, show (if ((ta, ea, ma, fa) : M4).1 = 0 then (24 : Int) else 0) = 0 from if_neg (by show ¬ ta = 0; omega)]
      exact rch_ge w la lb hla hlb ta ea ma fa bta ga (Lib.hid ha) Eb nb (Lib.hid hb)
    · rw [show (if ta % 2 = 0 ∧ ((0, 0, 0, 0) : M4).1 < ta then (ta, ea, ma, fa) else (0, 0, 0, 0)) = (0, 0, 0, 0) from if_neg (fun h => ga h.1)]
      exact rch_be w la lb hla hlb ta ea ma fa bta (by omega) (Lib.hid ha) Eb nb (Lib.hid hb)
  · have pb : 0 < tb := hRb.2.2.1
    have na : (Ea == 0) = false := by rcases hEa with rfl | rfl <;> rfl
    rw [mStep_is 1 lb _ tb eb mb fb hb, mStep_no 0 la _ Ea ha]
    by_cases gb : tb % 2 = 1
    · rw [show (if tb % 2 = 1 ∧ ((0, 0, 0, 0) : M4).1 < tb then (tb, eb, mb, fb) else (0, 0, 0, 0)) = (tb, eb, mb, fb) from if_pos ⟨gb, pb⟩, show (if ((tb, eb, mb, fb) : M4).1 = 0 then (24 : Int) else 0) = 0 from if_neg (by show ¬ tb = 0; omega)]
      exact rch_eg w la lb hla hlb Ea na (Lib.hid ha) tb eb mb fb btb gb (Lib.hid hb)
    · rw [show (if tb % 2 = 1 ∧ ((0, 0, 0, 0) : M4).1 < tb then (tb, eb, mb, fb) else (0, 0, 0, 0)) = (0, 0, 0, 0) from if_neg (fun h => gb h.1)]
      exact rch_eb w la lb hla hlb Ea na (Lib.hid ha) tb eb mb fb btb (by omega) (Lib.hid hb)
  · have na : (Ea == 0) = false := by rcases hEa with rfl | rfl <;> rfl
    have nb : (Eb == 0) = false := by rcases hEb with rfl | rfl <;> rfl
    rw [mStep_no 1 lb _ Eb hb, mStep_no 0 la _ Ea ha]
    exact rch_ee w la lb hla hlb Ea na (Lib.hid ha) Eb nb (Lib.hid hb)

end Go.Proofs.Ytpipgeboddaipaa
