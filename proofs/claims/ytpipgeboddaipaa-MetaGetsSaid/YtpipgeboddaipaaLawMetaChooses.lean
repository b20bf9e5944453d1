/- Layer 7's statement: MetaChooses. -/
import Derived.Test.YtpipgeboddaipaaLawMetaPuts
import Derived.BigRegion
namespace Go.Proofs.Ytpipgeboddaipaa
open Go.RowKit
set_option linter.unusedVariables false
set_option linter.unusedSimpArgs false

set_option maxRecDepth 20000 in
set_option maxHeartbeats 4000000 in
theorem cho_e0 (w : World) (t0 e0 m0 f0 t1 e1 m1 f1 : Nat) (ht0 : t0 < 18446744073709551616) (he0 : e0 < 4294967296) (hm0 : m0 < 4294967296) (hf0 : f0 < 4294967296) (ht1 : t1 < 18446744073709551616) (he1 : e1 < 4294967296) (hm1 : m1 < 4294967296) (hf1 : f1 < 4294967296) (S : Int) (A1 : Option Addr) (n1 c1 : Nat) (zs : List Int) (hz : Nums .u16 w w.heap.size A1 n1 c1 zs) (A2 : Option Addr) (n2 c2 : Nat) (l2 : List UInt8) (hx2 : Sl w w.heap.size A2 n2 c2 l2) (q : 20 < n1) :
    Calls Try.prog 5 #[.agg #[.int .u64 (t0 : Int), .int .u32 (e0 : Int), .int .u32 (m0 : Int), .int .u32 (f0 : Int)], .agg #[.int .u64 (t1 : Int), .int .u32 (e1 : Int), .int .u32 (m1 : Int), .int .u32 (f1 : Int)], .int .i64 S, .slice A1 n1 c1, .slice A2 n2 c2] w fun r w' => r = .returned (.bool true) ∧ Below w.heap.size w w' := by
  have d2 := (dec_i 20 n1).1 (by omega)
  clear q
  have hb0 : Below w.heap.size w ((w.alloc (.cells #[.int .u64 (t0 : Int), .int .u32 (e0 : Int), .int .u32 (m0 : Int), .int .u32 (f0 : Int)] 25)).alloc (.cells #[.int .u64 (t1 : Int), .int .u32 (e1 : Int), .int .u32 (m1 : Int), .int .u32 (f1 : Int)] 25)) := ((Below.refl _ _).alloc (Nat.le_refl _) _).alloc (by simp) _
  clear hz hx2
  go_enter Try.func5, Try.ntmps5
  go_wp2_with fail
  refine (awake7 _).mono ?_
  rintro r w1 ⟨rfl, hb1'⟩
  have hb1 := hb0.trans (hb1'.mono hb0.size)
  clear hb0 hb1'
  go_wp2_with fail
  go_ret
  exact ⟨rfl, hb1⟩

set_option maxRecDepth 20000 in
set_option maxHeartbeats 4000000 in
theorem cho_e1 (w : World) (t0 e0 m0 f0 t1 e1 m1 f1 : Nat) (ht0 : t0 < 18446744073709551616) (he0 : e0 < 4294967296) (hm0 : m0 < 4294967296) (hf0 : f0 < 4294967296) (ht1 : t1 < 18446744073709551616) (he1 : e1 < 4294967296) (hm1 : m1 < 4294967296) (hf1 : f1 < 4294967296) (S : Int) (A1 : Option Addr) (n1 c1 : Nat) (zs : List Int) (hz : Nums .u16 w w.heap.size A1 n1 c1 zs) (A2 : Option Addr) (n2 c2 : Nat) (l2 : List UInt8) (hx2 : Sl w w.heap.size A2 n2 c2 l2) (q0 : n1 ≤ 20) (q : n2 < n1) :
    Calls Try.prog 5 #[.agg #[.int .u64 (t0 : Int), .int .u32 (e0 : Int), .int .u32 (m0 : Int), .int .u32 (f0 : Int)], .agg #[.int .u64 (t1 : Int), .int .u32 (e1 : Int), .int .u32 (m1 : Int), .int .u32 (f1 : Int)], .int .i64 S, .slice A1 n1 c1, .slice A2 n2 c2] w fun r w' => r = .returned (.bool true) ∧ Below w.heap.size w w' := by
  have d2 := (dec_i 20 n1).2 (by omega)
  have d3 := (dec_n n2 n1).1 (by omega)
  clear q
  have hb0 : Below w.heap.size w ((w.alloc (.cells #[.int .u64 (t0 : Int), .int .u32 (e0 : Int), .int .u32 (m0 : Int), .int .u32 (f0 : Int)] 25)).alloc (.cells #[.int .u64 (t1 : Int), .int .u32 (e1 : Int), .int .u32 (m1 : Int), .int .u32 (f1 : Int)] 25)) := ((Below.refl _ _).alloc (Nat.le_refl _) _).alloc (by simp) _
  clear hz hx2
  go_enter Try.func5, Try.ntmps5
  go_wp2_with fail
  refine (awake7 _).mono ?_
  rintro r w1 ⟨rfl, hb1'⟩
  have hb1 := hb0.trans (hb1'.mono hb0.size)
  clear hb0 hb1'
  go_wp2_with fail
  go_ret
  exact ⟨rfl, hb1⟩

theorem cho_end (w : World) (A : Option Addr) (n c : Nat) (la : List UInt8) : True := trivial
theorem MB.set_far {w : World} {g : Nat} {l : List UInt8} (h : MB w g l) {p : Addr} (hne : p.block ≠ g) (v : Value) : MB (w.setCell p v) g l :=
  ⟨by simpa [World.setCell] using h.1, fun i b hi => ⟨(World.cell?_setCell_other w p ⟨g, i, none⟩ v (fun e => hne (by rw [e]))).trans (h.2 i b hi).1, by simpa using (h.2 i b hi).2⟩⟩

set_option maxRecDepth 20000 in
set_option maxHeartbeats 4000000 in
theorem cho_m11 (w : World) (t0 e0 m0 f0 t1 e1 m1 f1 : Nat) (ht0 : t0 < 18446744073709551616) (he0 : e0 < 4294967296) (hm0 : m0 < 4294967296) (hf0 : f0 < 4294967296) (ht1 : t1 < 18446744073709551616) (he1 : e1 < 4294967296) (hm1 : m1 < 4294967296) (hf1 : f1 < 4294967296) (S : Int) (A1 : Option Addr) (n1 c1 : Nat) (zs : List Int) (hz : Nums .u16 w w.heap.size A1 n1 c1 zs) (A2 : Option Addr) (n2 c2 : Nat) (l2 : List UInt8) (hx2 : Sl w w.heap.size A2 n2 c2 l2) (n0 : Nat) (hS : S = (n0 : Int)) (q0 : n1 ≤ 20) (q1 : n1 ≤ n2) (h0 : (MRight t0 e0 m0 f0 ∧ 512 ≤ S ∧ S ≤ 4096)) (h1 : (MRight t1 e1 m1 f1 ∧ 512 ≤ S ∧ S ≤ 4096)) :
    Calls Try.prog 5 #[.agg #[.int .u64 (t0 : Int), .int .u32 (e0 : Int), .int .u32 (m0 : Int), .int .u32 (f0 : Int)], .agg #[.int .u64 (t1 : Int), .int .u32 (e1 : Int), .int .u32 (m1 : Int), .int .u32 (f1 : Int)], .int .i64 S, .slice A1 n1 c1, .slice A2 n2 c2] w fun r w' => r = .returned (.bool true) ∧ Below w.heap.size w w' := by
  subst hS
  have d2 := (dec_i 20 n1).2 (by omega)
  have d3 := (dec_n n2 n1).2 (by omega)
  have hn0a : 512 ≤ n0 := by have := h0.2.1; omega
  have hn0b : n0 ≤ 4096 := by have := h0.2.2; omega
  have H0 := Lib.hid h0
  have H1 := Lib.hid h1
  clear h0 h1
  have L0 := Lib.hid (mPut_length t0 e0 m0 f0 n0 (by omega))
  have L1 := Lib.hid (mPut_length t1 e1 m1 f1 n0 (by omega))
  have hx0 := blk_alloc (heap_alloc_new w (.cells #[.int .u64 (t0 : Int), .int .u32 (e0 : Int), .int .u32 (m0 : Int), .int .u32 (f0 : Int)] 25)) (.cells #[.int .u64 (t1 : Int), .int .u32 (e1 : Int), .int .u32 (m1 : Int), .int .u32 (f1 : Int)] 25)
  have hx1 := heap_alloc_new (w.alloc (.cells #[.int .u64 (t0 : Int), .int .u32 (e0 : Int), .int .u32 (m0 : Int), .int .u32 (f0 : Int)] 25)) (.cells #[.int .u64 (t1 : Int), .int .u32 (e1 : Int), .int .u32 (m1 : Int), .int .u32 (f1 : Int)] 25)
  have hb0 : Below w.heap.size w ((w.alloc (.cells #[.int .u64 (t0 : Int), .int .u32 (e0 : Int), .int .u32 (m0 : Int), .int .u32 (f0 : Int)] 25)).alloc (.cells #[.int .u64 (t1 : Int), .int .u32 (e1 : Int), .int .u32 (m1 : Int), .int .u32 (f1 : Int)] 25)) := ((Below.refl _ _).alloc (Nat.le_refl _) _).alloc (by simp) _
  rw [World.size_alloc] at hx1
  have HX0 := Lib.hid hx0
  have HX1 := Lib.hid hx1
  clear hx0 hx1
  go_enter Try.func5, Try.ntmps5
  go_wp2_with fail
  refine (awake7 _).mono ?_
  rintro r w1 ⟨rfl, hb1'⟩
  have hb1 := hb0.trans (hb1'.mono hb0.size)
  have hx0 := blk_below HX0.out hb1' (blk_lt HX0.out)
  have hx1 := blk_below HX1.out hb1' (blk_lt HX1.out)
  obtain ⟨⟨x00, x01, x02, x03⟩, _⟩ := cell4 hx0
  clear hb0 hb1' HX0 HX1
  go_wp2_with fail
  refine (of_any _ t0 e0 m0 f0).mono ?_
  rintro r w2 ⟨rfl, hb2'⟩
  have hb2 := hb1.trans (hb2'.mono hb1.size)
  have hx1 := blk_below hx1 hb2' (blk_lt hx1)
  have hg0 := blk_alloc (heap_alloc_new w2 (.cells #[.int .u64 (t0 : Int), .int .u32 (e0 : Int), .int .u32 (m0 : Int), .int .u32 (f0 : Int)] 29)) (.cells #[.int .u64 (t0 : Int), .int .u32 (e0 : Int), .int .u32 (m0 : Int), .int .u32 (f0 : Int)] 30)
  have hgw0 : w.heap.size ≤ w2.heap.size := hb2.size
  have hb3 := (hb2.alloc hb2.size (.cells #[.int .u64 (t0 : Int), .int .u32 (e0 : Int), .int .u32 (m0 : Int), .int .u32 (f0 : Int)] 29)).alloc (by have := hb2.size; simp; omega) (.cells #[.int .u64 (t0 : Int), .int .u32 (e0 : Int), .int .u32 (m0 : Int), .int .u32 (f0 : Int)] 30)
  have hx1' := blk_alloc (blk_alloc hx1 (.cells #[.int .u64 (t0 : Int), .int .u32 (e0 : Int), .int .u32 (m0 : Int), .int .u32 (f0 : Int)] 29)) (.cells #[.int .u64 (t0 : Int), .int .u32 (e0 : Int), .int .u32 (m0 : Int), .int .u32 (f0 : Int)] 30)
  obtain ⟨⟨x10, x11, x12, x13⟩, _⟩ := cell4 hx1'
  clear hb1 hb2' x00 x01 x02 x03 hx0 hx1 hb2
  go_wp2_with fail
  generalize (w2.alloc (.cells #[.int .u64 (t0 : Int), .int .u32 (e0 : Int), .int .u32 (m0 : Int), .int .u32 (f0 : Int)] 29)).alloc (.cells #[.int .u64 (t0 : Int), .int .u32 (e0 : Int), .int .u32 (m0 : Int), .int .u32 (f0 : Int)] 30) = w3 at *
  generalize w2.heap.size = g0 at *
  refine (of_any _ t1 e1 m1 f1).mono ?_
  rintro r w4 ⟨rfl, hb4'⟩
  have hb4 := hb3.trans (hb4'.mono hb3.size)
  have hg0 := blk_below hg0 hb4' (blk_lt hg0)
  have hne : g0 ≠ w4.heap.size := by have := blk_lt hg0; omega
  have hg0 := blk_alloc (blk_alloc hg0 (.cells #[.int .u64 (t1 : Int), .int .u32 (e1 : Int), .int .u32 (m1 : Int), .int .u32 (f1 : Int)] 29)) (.cells #[.int .u64 (t1 : Int), .int .u32 (e1 : Int), .int .u32 (m1 : Int), .int .u32 (f1 : Int)] 30)
  have hg1 := blk_alloc (heap_alloc_new w4 (.cells #[.int .u64 (t1 : Int), .int .u32 (e1 : Int), .int .u32 (m1 : Int), .int .u32 (f1 : Int)] 29)) (.cells #[.int .u64 (t1 : Int), .int .u32 (e1 : Int), .int .u32 (m1 : Int), .int .u32 (f1 : Int)] 30)
  have hgw1 : w.heap.size ≤ w4.heap.size := hb4.size
  have hb5 := (hb4.alloc hb4.size (.cells #[.int .u64 (t1 : Int), .int .u32 (e1 : Int), .int .u32 (m1 : Int), .int .u32 (f1 : Int)] 29)).alloc (by have := hb4.size; simp; omega) (.cells #[.int .u64 (t1 : Int), .int .u32 (e1 : Int), .int .u32 (m1 : Int), .int .u32 (f1 : Int)] 30)
  clear hb3 hb4' x10 x11 x12 x13 hx1' hb4
  obtain ⟨⟨a00, a01, a02, a03⟩, b00, b01, b02, b03⟩ := cell4 hg0
  go_wp2_with fail
  clear a00 a01 a02 a03 b00 b01 b02 b03
  generalize (w4.alloc (.cells #[.int .u64 (t1 : Int), .int .u32 (e1 : Int), .int .u32 (m1 : Int), .int .u32 (f1 : Int)] 29)).alloc (.cells #[.int .u64 (t1 : Int), .int .u32 (e1 : Int), .int .u32 (m1 : Int), .int .u32 (f1 : Int)] 30) = w5 at *
  generalize w4.heap.size = g1 at *
  refine (mput_ok _ t0 e0 m0 f0 n0 ht0 he0 hm0 hf0 H0.out.1 hn0a hn0b).mono ?_
  rintro r w6 ⟨p0, rfl, hp0, hP0, hb6'⟩
  have hpw0 : w.heap.size ≤ p0 := Nat.le_trans hb5.size hp0
  have hb6 := hb5.trans (hb6'.mono hb5.size)
  have hg1 := blk_below hg1 hb6' (blk_lt hg1)
  obtain ⟨⟨a10, a11, a12, a13⟩, b10, b11, b12, b13⟩ := cell4 hg1
  clear hb5 hb6' hg0
  go_wp2_with fail
  refine (mput_ok _ t1 e1 m1 f1 n0 ht1 he1 hm1 hf1 H1.out.1 hn0a hn0b).mono ?_
  rintro r w7 ⟨p1, rfl, hp1, hP1, hb7'⟩
  have hpw1 : w.heap.size ≤ p1 := Nat.le_trans hb6.size hp1
  have hb7 := hb6.trans (hb7'.mono hb6.size)
  have hM0i := MB.of_row (hP0.below hb7' hP0.lt)
  have hpne : p0 ≠ p1 := by have := hP0.lt; omega
  have hM1i := MB.of_row hP1
  have hl0 := L0.out
  generalize mPut t0 e0 m0 f0 n0 = bi0 at *
  have hla0 : n0 ≤ bi0.length := by omega
  have hlb0 : bi0.length ≤ n0 := by omega
  clear hl0
  have hl1 := L1.out
  generalize mPut t1 e1 m1 f1 n0 = bi1 at *
  have hla1 : n0 ≤ bi1.length := by omega
  have hlb1 : bi1.length ≤ n0 := by omega
  clear hl1
  clear hb6 hb7' a10 a11 a12 a13 b10 b11 b12 b13 hg1 hP0 hP1
  go_wp2_with fail
  go_loopw [20] (fun i wr => ∃ (k : Nat) (b0 b1 : List UInt8), k ≤ n1 ∧ i = .int .i64 (k : Int) ∧ MB wr p0 b0 ∧ n0 ≤ b0.length ∧ b0.length ≤ n0 ∧ MB wr p1 b1 ∧ n0 ≤ b1.length ∧ b1.length ≤ n0 ∧ Below w.heap.size w wr) (fun i _ => n1 - (intOf i).toNat)
  case atStart => exact ⟨0, bi0, bi1, Nat.zero_le _, rfl, hM0i, hla0, hlb0, hM1i, hla1, hlb1, hb7⟩
  case round =>
    clear hb7 hM0i hla0 hlb0 hM1i hla1 hlb1
    obtain ⟨k, b0, b1, hk, rfl, hM0, hlx0, hly0, hM1, hlx1, hly1, hbw⟩ := hrel
    by_cases hlt : k < n1
    · rcases (by omega : k % 2 = 0 ∨ k % 2 = 1) with hpar | hpar
      · have y0 : (((k : Int) % 2) == 0) = true := by simp; omega
        have y1 : (((k : Int) % 2) == 1) = false := by simp; omega
        clear hpar
        have hposb : decide (0 < n0) = true := decide_eq_true (by omega)
        have hposi : decide ((0 : Int) < (n0 : Int)) = true := decide_eq_true (by omega)
        have hnz : ¬ n0 = 0 := by omega
        obtain ⟨z, adz, hA1e, hadz, hzc, hz0, hz1⟩ := (hz.below hbw).at_ hlt
        obtain ⟨adx, xb, hA2e, hadx, _, hxc⟩ := (hx2.below hbw).get (show k < n2 by omega)
        subst hA1e hA2e
        have hkn2 : k < n2 := by omega
        obtain ⟨j, hj, hjn⟩ := spoil_idx z n0 hz0 (by omega)
        have hzw : IntKind.i64.wrap z = z := IntWalk.i64_in _ (by omega)
        obtain ⟨hbc, hbf⟩ := hM0.2 j b0[j] (List.getElem?_eq_getElem (by omega))
        have hxor := xor_byte' b0[j] xb
        have hj0 : (0 : Int) ≤ (j : Int) := by omega
        have hj1 : (j : Int) < (n0 : Int) := by omega
        have hset := hM0.set_ j (b0[j] ^^^ xb) (by omega)
        have hbn := hbw.setCell (p := ⟨p0, j, none⟩) hpw0 (.int .u8 ((b0[j] ^^^ xb).toNat : Int))
        have hMo := hM1.set_far (p := ⟨p0, j, none⟩) hpne (.int .u8 ((b0[j] ^^^ xb).toNat : Int))
        go_wp2
        refine wp_still_tail 17 (by kernel_rfl) (by kernel_rfl) ?_
        simp only [List.take_succ_cons, List.take_zero, List.drop_succ_cons, List.drop_zero]
        repeat still_step
        refine wpStill_nil ?_
        go_wp2
        go_roundw
        case rel => exact ⟨k + 1, b0.set j (b0[j] ^^^ xb), b1, by omega, by go_num, hset, by simpa using hlx0, by simpa using hly0, hMo, hlx1, hly1, hbn.drew⟩
        case measure => simp [intOf]; omega
      · have y0 : (((k : Int) % 2) == 0) = false := by simp; omega
        have y1 : (((k : Int) % 2) == 1) = true := by simp; omega
        clear hpar
        have hposb : decide (0 < n0) = true := decide_eq_true (by omega)
        have hposi : decide ((0 : Int) < (n0 : Int)) = true := decide_eq_true (by omega)
        have hnz : ¬ n0 = 0 := by omega
        obtain ⟨z, adz, hA1e, hadz, hzc, hz0, hz1⟩ := (hz.below hbw).at_ hlt
        obtain ⟨adx, xb, hA2e, hadx, _, hxc⟩ := (hx2.below hbw).get (show k < n2 by omega)
        subst hA1e hA2e
        have hkn2 : k < n2 := by omega
        obtain ⟨j, hj, hjn⟩ := spoil_idx z n0 hz0 (by omega)
        have hzw : IntKind.i64.wrap z = z := IntWalk.i64_in _ (by omega)
        obtain ⟨hbc, hbf⟩ := hM1.2 j b1[j] (List.getElem?_eq_getElem (by omega))
        have hxor := xor_byte' b1[j] xb
        have hj0 : (0 : Int) ≤ (j : Int) := by omega
        have hj1 : (j : Int) < (n0 : Int) := by omega
        have hset := hM1.set_ j (b1[j] ^^^ xb) (by omega)
        have hbn := hbw.setCell (p := ⟨p1, j, none⟩) hpw1 (.int .u8 ((b1[j] ^^^ xb).toNat : Int))
        have hMo := hM0.set_far (p := ⟨p1, j, none⟩) (Ne.symm hpne) (.int .u8 ((b1[j] ^^^ xb).toNat : Int))
        go_wp2
        refine wp_still_tail 17 (by kernel_rfl) (by kernel_rfl) ?_
        simp only [List.take_succ_cons, List.take_zero, List.drop_succ_cons, List.drop_zero]
        repeat still_step
        refine wpStill_nil ?_
        go_wp2
        go_roundw
        case rel => exact ⟨k + 1, b0, b1.set j (b1[j] ^^^ xb), by omega, by go_num, hMo, hlx0, hly0, hset, by simpa using hlx1, by simpa using hly1, hbn.drew⟩
        case measure => simp [intOf]; omega
    · have sA : Sl wr wr.heap.size (some ⟨p0, 0, none⟩) n0 n0 b0 := (hM0.sl (n := n0) (by omega) (Nat.le_refl _))
      have sB : Sl wr wr.heap.size (some ⟨p1, 0, none⟩) n0 n0 b1 := (hM1.sl (n := n0) (by omega) (Nat.le_refl _))
      have zA : b0.length ≤ 140737488355328 := by omega
      have zB : b1.length ≤ 140737488355328 := by omega
      clear hk hM0 hlx0 hly0 hM1 hlx1 hly1 hz hx2
      go_wp2_with fail
      refine (mchoose_any _ _ _ _ _ _ _ _ _ sA sB (by omega) (by omega)).mono ?_
      rintro r w8 ⟨rfl, hb8'⟩
      have hrc := fun w : World => rchoose_any w b0 b1 zA zB
      obtain ⟨T, hT⟩ : ∃ T, mChosen b0 b1 = T := ⟨_, rfl⟩
      obtain ⟨t, e, m, f⟩ := T
      rw [hT] at hrc ⊢
      obtain ⟨E, hE⟩ : ∃ E : Int, (if ((t, e, m, f) : M4).1 = 0 then (24 : Int) else 0) = E := ⟨_, rfl⟩
      rw [hE] at hrc ⊢
      simp only [mCells] at hrc ⊢
      have HRC := Lib.hid hrc
      have hb8 := hbw.trans (hb8'.mono hbw.size)
      have hb9' : Below wr.heap.size wr (w8.alloc (.cells #[.int .u64 (t : Int), .int .u32 (e : Int), .int .u32 (m : Int), .int .u32 (f : Int)] 29)) := hb8'.alloc hb8'.size _
      have hb9 := hb8.alloc hb8.size (.cells #[.int .u64 (t : Int), .int .u32 (e : Int), .int .u32 (m : Int), .int .u32 (f : Int)] 29)
      have hk9 := heap_alloc_new w8 (.cells #[.int .u64 (t : Int), .int .u32 (e : Int), .int .u32 (m : Int), .int .u32 (f : Int)] 29)
      have cA := string_of_sl (P := Try.prog) Try.underlying33 Try.underlying5 Try.underlying9 (sA.below hb9')
      have cB := string_of_sl (P := Try.prog) Try.underlying33 Try.underlying5 Try.underlying9 (sB.below hb9')
      clear hT hE hrc hb8 hb8' hb9' sA sB hbw
      go_wp2_with fail
      generalize w8.alloc (.cells #[.int .u64 (t : Int), .int .u32 (e : Int), .int .u32 (m : Int), .int .u32 (f : Int)] 29) = w9 at *
      generalize w8.heap.size = gk at *
      refine (HRC.out _).mono ?_
      rintro r w10 ⟨rfl, hb10'⟩
      have hb10 := hb9.trans (hb10'.mono hb9.size)
      have hk10 := blk_below hk9 hb10' (blk_lt hk9)
      have hb11 := hb10.alloc hb10.size (.cells #[.int .u64 (t : Int), .int .u32 (e : Int), .int .u32 (m : Int), .int .u32 (f : Int)] 30)
      obtain ⟨⟨k0, k1, k2, k3⟩, _⟩ := cell4 (blk_alloc hk10 (.cells #[.int .u64 (t : Int), .int .u32 (e : Int), .int .u32 (m : Int), .int .u32 (f : Int)] 30))
      clear hb9 hb10 hb10' hk9 hk10 cA cB
      go_wp2_with fail
      refine (same_yes _ t e m f).mono ?_
      rintro r w12 ⟨rfl, hb12'⟩
      have hbz := hb11.trans (hb12'.mono hb11.size)
      go_wp2_with fail
      go_ret
      exact ⟨rfl, hbz⟩

set_option maxRecDepth 20000 in
set_option maxHeartbeats 4000000 in
theorem cho_m10 (w : World) (t0 e0 m0 f0 t1 e1 m1 f1 : Nat) (ht0 : t0 < 18446744073709551616) (he0 : e0 < 4294967296) (hm0 : m0 < 4294967296) (hf0 : f0 < 4294967296) (ht1 : t1 < 18446744073709551616) (he1 : e1 < 4294967296) (hm1 : m1 < 4294967296) (hf1 : f1 < 4294967296) (S : Int) (A1 : Option Addr) (n1 c1 : Nat) (zs : List Int) (hz : Nums .u16 w w.heap.size A1 n1 c1 zs) (A2 : Option Addr) (n2 c2 : Nat) (l2 : List UInt8) (hx2 : Sl w w.heap.size A2 n2 c2 l2) (n0 : Nat) (hS : S = (n0 : Int)) (q0 : n1 ≤ 20) (q1 : n1 ≤ n2) (h0 : (MRight t0 e0 m0 f0 ∧ 512 ≤ S ∧ S ≤ 4096)) (h1 : ¬ (MRight t1 e1 m1 f1 ∧ 512 ≤ S ∧ S ≤ 4096)) :
    Calls Try.prog 5 #[.agg #[.int .u64 (t0 : Int), .int .u32 (e0 : Int), .int .u32 (m0 : Int), .int .u32 (f0 : Int)], .agg #[.int .u64 (t1 : Int), .int .u32 (e1 : Int), .int .u32 (m1 : Int), .int .u32 (f1 : Int)], .int .i64 S, .slice A1 n1 c1, .slice A2 n2 c2] w fun r w' => r = .returned (.bool true) ∧ Below w.heap.size w w' := by
  subst hS
  have d2 := (dec_i 20 n1).2 (by omega)
  have d3 := (dec_n n2 n1).2 (by omega)
  have hn0a : 512 ≤ n0 := by have := h0.2.1; omega
  have hn0b : n0 ≤ 4096 := by have := h0.2.2; omega
  have H0 := Lib.hid h0
  have H1 := Lib.hid h1
  clear h0 h1
  have L0 := Lib.hid (mPut_length t0 e0 m0 f0 n0 (by omega))
  have hx0 := blk_alloc (heap_alloc_new w (.cells #[.int .u64 (t0 : Int), .int .u32 (e0 : Int), .int .u32 (m0 : Int), .int .u32 (f0 : Int)] 25)) (.cells #[.int .u64 (t1 : Int), .int .u32 (e1 : Int), .int .u32 (m1 : Int), .int .u32 (f1 : Int)] 25)
  have hx1 := heap_alloc_new (w.alloc (.cells #[.int .u64 (t0 : Int), .int .u32 (e0 : Int), .int .u32 (m0 : Int), .int .u32 (f0 : Int)] 25)) (.cells #[.int .u64 (t1 : Int), .int .u32 (e1 : Int), .int .u32 (m1 : Int), .int .u32 (f1 : Int)] 25)
  have hb0 : Below w.heap.size w ((w.alloc (.cells #[.int .u64 (t0 : Int), .int .u32 (e0 : Int), .int .u32 (m0 : Int), .int .u32 (f0 : Int)] 25)).alloc (.cells #[.int .u64 (t1 : Int), .int .u32 (e1 : Int), .int .u32 (m1 : Int), .int .u32 (f1 : Int)] 25)) := ((Below.refl _ _).alloc (Nat.le_refl _) _).alloc (by simp) _
  rw [World.size_alloc] at hx1
  have HX0 := Lib.hid hx0
  have HX1 := Lib.hid hx1
  clear hx0 hx1
  go_enter Try.func5, Try.ntmps5
  go_wp2_with fail
  refine (awake7 _).mono ?_
  rintro r w1 ⟨rfl, hb1'⟩
  have hb1 := hb0.trans (hb1'.mono hb0.size)
  have hx0 := blk_below HX0.out hb1' (blk_lt HX0.out)
  have hx1 := blk_below HX1.out hb1' (blk_lt HX1.out)
  obtain ⟨⟨x00, x01, x02, x03⟩, _⟩ := cell4 hx0
  clear hb0 hb1' HX0 HX1
  go_wp2_with fail
  refine (of_any _ t0 e0 m0 f0).mono ?_
  rintro r w2 ⟨rfl, hb2'⟩
  have hb2 := hb1.trans (hb2'.mono hb1.size)
  have hx1 := blk_below hx1 hb2' (blk_lt hx1)
  have hg0 := blk_alloc (heap_alloc_new w2 (.cells #[.int .u64 (t0 : Int), .int .u32 (e0 : Int), .int .u32 (m0 : Int), .int .u32 (f0 : Int)] 29)) (.cells #[.int .u64 (t0 : Int), .int .u32 (e0 : Int), .int .u32 (m0 : Int), .int .u32 (f0 : Int)] 30)
  have hgw0 : w.heap.size ≤ w2.heap.size := hb2.size
  have hb3 := (hb2.alloc hb2.size (.cells #[.int .u64 (t0 : Int), .int .u32 (e0 : Int), .int .u32 (m0 : Int), .int .u32 (f0 : Int)] 29)).alloc (by have := hb2.size; simp; omega) (.cells #[.int .u64 (t0 : Int), .int .u32 (e0 : Int), .int .u32 (m0 : Int), .int .u32 (f0 : Int)] 30)
  have hx1' := blk_alloc (blk_alloc hx1 (.cells #[.int .u64 (t0 : Int), .int .u32 (e0 : Int), .int .u32 (m0 : Int), .int .u32 (f0 : Int)] 29)) (.cells #[.int .u64 (t0 : Int), .int .u32 (e0 : Int), .int .u32 (m0 : Int), .int .u32 (f0 : Int)] 30)
  obtain ⟨⟨x10, x11, x12, x13⟩, _⟩ := cell4 hx1'
  clear hb1 hb2' x00 x01 x02 x03 hx0 hx1 hb2
  go_wp2_with fail
  generalize (w2.alloc (.cells #[.int .u64 (t0 : Int), .int .u32 (e0 : Int), .int .u32 (m0 : Int), .int .u32 (f0 : Int)] 29)).alloc (.cells #[.int .u64 (t0 : Int), .int .u32 (e0 : Int), .int .u32 (m0 : Int), .int .u32 (f0 : Int)] 30) = w3 at *
  generalize w2.heap.size = g0 at *
  refine (of_any _ t1 e1 m1 f1).mono ?_
  rintro r w4 ⟨rfl, hb4'⟩
  have hb4 := hb3.trans (hb4'.mono hb3.size)
  have hg0 := blk_below hg0 hb4' (blk_lt hg0)
  have hne : g0 ≠ w4.heap.size := by have := blk_lt hg0; omega
  have hg0 := blk_alloc (blk_alloc hg0 (.cells #[.int .u64 (t1 : Int), .int .u32 (e1 : Int), .int .u32 (m1 : Int), .int .u32 (f1 : Int)] 29)) (.cells #[.int .u64 (t1 : Int), .int .u32 (e1 : Int), .int .u32 (m1 : Int), .int .u32 (f1 : Int)] 30)
  have hg1 := blk_alloc (heap_alloc_new w4 (.cells #[.int .u64 (t1 : Int), .int .u32 (e1 : Int), .int .u32 (m1 : Int), .int .u32 (f1 : Int)] 29)) (.cells #[.int .u64 (t1 : Int), .int .u32 (e1 : Int), .int .u32 (m1 : Int), .int .u32 (f1 : Int)] 30)
  have hgw1 : w.heap.size ≤ w4.heap.size := hb4.size
  have hb5 := (hb4.alloc hb4.size (.cells #[.int .u64 (t1 : Int), .int .u32 (e1 : Int), .int .u32 (m1 : Int), .int .u32 (f1 : Int)] 29)).alloc (by have := hb4.size; simp; omega) (.cells #[.int .u64 (t1 : Int), .int .u32 (e1 : Int), .int .u32 (m1 : Int), .int .u32 (f1 : Int)] 30)
  clear hb3 hb4' x10 x11 x12 x13 hx1' hb4
  obtain ⟨⟨a00, a01, a02, a03⟩, b00, b01, b02, b03⟩ := cell4 hg0
  go_wp2_with fail
  clear a00 a01 a02 a03 b00 b01 b02 b03
  generalize (w4.alloc (.cells #[.int .u64 (t1 : Int), .int .u32 (e1 : Int), .int .u32 (m1 : Int), .int .u32 (f1 : Int)] 29)).alloc (.cells #[.int .u64 (t1 : Int), .int .u32 (e1 : Int), .int .u32 (m1 : Int), .int .u32 (f1 : Int)] 30) = w5 at *
  generalize w4.heap.size = g1 at *
  refine (mput_ok _ t0 e0 m0 f0 n0 ht0 he0 hm0 hf0 H0.out.1 hn0a hn0b).mono ?_
  rintro r w6 ⟨p0, rfl, hp0, hP0, hb6'⟩
  have hpw0 : w.heap.size ≤ p0 := Nat.le_trans hb5.size hp0
  have hb6 := hb5.trans (hb6'.mono hb5.size)
  have hg1 := blk_below hg1 hb6' (blk_lt hg1)
  obtain ⟨⟨a10, a11, a12, a13⟩, b10, b11, b12, b13⟩ := cell4 hg1
  clear hb5 hb6' hg0
  go_wp2_with fail
  refine (mput_no _ t1 e1 m1 f1 (n0 : Int) ht1 he1 hm1 hf1 H1.out).mono ?_
  rintro r w7 ⟨rfl, hb7'⟩
  have hb7 := hb6.trans (hb7'.mono hb6.size)
  have hM0i := MB.of_row (hP0.below hb7' hP0.lt)
  have hl0 := L0.out
  generalize mPut t0 e0 m0 f0 n0 = bi0 at *
  have hla0 : n0 ≤ bi0.length := by omega
  have hlb0 : bi0.length ≤ n0 := by omega
  clear hl0
  clear hb6 hb7' a10 a11 a12 a13 b10 b11 b12 b13 hg1 hP0
  go_wp2_with fail
  go_loopw [20] (fun i wr => ∃ (k : Nat) (b0 : List UInt8), k ≤ n1 ∧ i = .int .i64 (k : Int) ∧ MB wr p0 b0 ∧ n0 ≤ b0.length ∧ b0.length ≤ n0 ∧ Below w.heap.size w wr) (fun i _ => n1 - (intOf i).toNat)
  case atStart => exact ⟨0, bi0, Nat.zero_le _, rfl, hM0i, hla0, hlb0, hb7⟩
  case round =>
    clear hb7 hM0i hla0 hlb0
    obtain ⟨k, b0, hk, rfl, hM0, hlx0, hly0, hbw⟩ := hrel
    by_cases hlt : k < n1
    · rcases (by omega : k % 2 = 0 ∨ k % 2 = 1) with hpar | hpar
      · have y0 : (((k : Int) % 2) == 0) = true := by simp; omega
        have y1 : (((k : Int) % 2) == 1) = false := by simp; omega
        clear hpar
        have hposb : decide (0 < n0) = true := decide_eq_true (by omega)
        have hposi : decide ((0 : Int) < (n0 : Int)) = true := decide_eq_true (by omega)
        have hnz : ¬ n0 = 0 := by omega
        obtain ⟨z, adz, hA1e, hadz, hzc, hz0, hz1⟩ := (hz.below hbw).at_ hlt
        obtain ⟨adx, xb, hA2e, hadx, _, hxc⟩ := (hx2.below hbw).get (show k < n2 by omega)
        subst hA1e hA2e
        have hkn2 : k < n2 := by omega
        obtain ⟨j, hj, hjn⟩ := spoil_idx z n0 hz0 (by omega)
        have hzw : IntKind.i64.wrap z = z := IntWalk.i64_in _ (by omega)
        obtain ⟨hbc, hbf⟩ := hM0.2 j b0[j] (List.getElem?_eq_getElem (by omega))
        have hxor := xor_byte' b0[j] xb
        have hj0 : (0 : Int) ≤ (j : Int) := by omega
        have hj1 : (j : Int) < (n0 : Int) := by omega
        have hset := hM0.set_ j (b0[j] ^^^ xb) (by omega)
        have hbn := hbw.setCell (p := ⟨p0, j, none⟩) hpw0 (.int .u8 ((b0[j] ^^^ xb).toNat : Int))
        skip
        go_wp2
        refine wp_still_tail 17 (by kernel_rfl) (by kernel_rfl) ?_
        simp only [List.take_succ_cons, List.take_zero, List.drop_succ_cons, List.drop_zero]
        repeat still_step
        refine wpStill_nil ?_
        go_wp2
        go_roundw
        case rel => exact ⟨k + 1, b0.set j (b0[j] ^^^ xb), by omega, by go_num, hset, by simpa using hlx0, by simpa using hly0, hbn.drew⟩
        case measure => simp [intOf]; omega
      · have y0 : (((k : Int) % 2) == 0) = false := by simp; omega
        have y1 : (((k : Int) % 2) == 1) = true := by simp; omega
        clear hpar
        go_wp2
        go_roundw
        case rel => exact ⟨k + 1, b0, by omega, by go_num, hM0, hlx0, hly0, hbw⟩
        case measure => simp [intOf]; omega
    · have sA : Sl wr wr.heap.size (some ⟨p0, 0, none⟩) n0 n0 b0 := (hM0.sl (n := n0) (by omega) (Nat.le_refl _))
      have sB : Sl wr wr.heap.size none 0 0 ([] : List UInt8) := (Sl.nil_ _ _)
      have zA : b0.length ≤ 140737488355328 := by omega
      have zB : ([] : List UInt8).length ≤ 140737488355328 := by simp
      clear hk hM0 hlx0 hly0 hz hx2
      go_wp2_with fail
      refine (mchoose_any _ _ _ _ _ _ _ _ _ sA sB (by omega) (by omega)).mono ?_
      rintro r w8 ⟨rfl, hb8'⟩
      have hrc := fun w : World => rchoose_any w b0 ([] : List UInt8) zA zB
      obtain ⟨T, hT⟩ : ∃ T, mChosen b0 ([] : List UInt8) = T := ⟨_, rfl⟩
      obtain ⟨t, e, m, f⟩ := T
      rw [hT] at hrc ⊢
      obtain ⟨E, hE⟩ : ∃ E : Int, (if ((t, e, m, f) : M4).1 = 0 then (24 : Int) else 0) = E := ⟨_, rfl⟩
      rw [hE] at hrc ⊢
      simp only [mCells] at hrc ⊢
      have HRC := Lib.hid hrc
      have hb8 := hbw.trans (hb8'.mono hbw.size)
      have hb9' : Below wr.heap.size wr (w8.alloc (.cells #[.int .u64 (t : Int), .int .u32 (e : Int), .int .u32 (m : Int), .int .u32 (f : Int)] 29)) := hb8'.alloc hb8'.size _
      have hb9 := hb8.alloc hb8.size (.cells #[.int .u64 (t : Int), .int .u32 (e : Int), .int .u32 (m : Int), .int .u32 (f : Int)] 29)
      have hk9 := heap_alloc_new w8 (.cells #[.int .u64 (t : Int), .int .u32 (e : Int), .int .u32 (m : Int), .int .u32 (f : Int)] 29)
      have cA := string_of_sl (P := Try.prog) Try.underlying33 Try.underlying5 Try.underlying9 (sA.below hb9')
      have cB := string_of_sl (P := Try.prog) Try.underlying33 Try.underlying5 Try.underlying9 (sB.below hb9')
      clear hT hE hrc hb8 hb8' hb9' sA sB hbw
      go_wp2_with fail
      generalize w8.alloc (.cells #[.int .u64 (t : Int), .int .u32 (e : Int), .int .u32 (m : Int), .int .u32 (f : Int)] 29) = w9 at *
      generalize w8.heap.size = gk at *
      refine (HRC.out _).mono ?_
      rintro r w10 ⟨rfl, hb10'⟩
      have hb10 := hb9.trans (hb10'.mono hb9.size)
      have hk10 := blk_below hk9 hb10' (blk_lt hk9)
      have hb11 := hb10.alloc hb10.size (.cells #[.int .u64 (t : Int), .int .u32 (e : Int), .int .u32 (m : Int), .int .u32 (f : Int)] 30)
      obtain ⟨⟨k0, k1, k2, k3⟩, _⟩ := cell4 (blk_alloc hk10 (.cells #[.int .u64 (t : Int), .int .u32 (e : Int), .int .u32 (m : Int), .int .u32 (f : Int)] 30))
      clear hb9 hb10 hb10' hk9 hk10 cA cB
      go_wp2_with fail
      refine (same_yes _ t e m f).mono ?_
      rintro r w12 ⟨rfl, hb12'⟩
      have hbz := hb11.trans (hb12'.mono hb11.size)
      go_wp2_with fail
      go_ret
      exact ⟨rfl, hbz⟩

set_option maxRecDepth 20000 in
set_option maxHeartbeats 4000000 in
theorem cho_m01 (w : World) (t0 e0 m0 f0 t1 e1 m1 f1 : Nat) (ht0 : t0 < 18446744073709551616) (he0 : e0 < 4294967296) (hm0 : m0 < 4294967296) (hf0 : f0 < 4294967296) (ht1 : t1 < 18446744073709551616) (he1 : e1 < 4294967296) (hm1 : m1 < 4294967296) (hf1 : f1 < 4294967296) (S : Int) (A1 : Option Addr) (n1 c1 : Nat) (zs : List Int) (hz : Nums .u16 w w.heap.size A1 n1 c1 zs) (A2 : Option Addr) (n2 c2 : Nat) (l2 : List UInt8) (hx2 : Sl w w.heap.size A2 n2 c2 l2) (n0 : Nat) (hS : S = (n0 : Int)) (q0 : n1 ≤ 20) (q1 : n1 ≤ n2) (h0 : ¬ (MRight t0 e0 m0 f0 ∧ 512 ≤ S ∧ S ≤ 4096)) (h1 : (MRight t1 e1 m1 f1 ∧ 512 ≤ S ∧ S ≤ 4096)) :
    Calls Try.prog 5 #[.agg #[.int .u64 (t0 : Int), .int .u32 (e0 : Int), .int .u32 (m0 : Int), .int .u32 (f0 : Int)], .agg #[.int .u64 (t1 : Int), .int .u32 (e1 : Int), .int .u32 (m1 : Int), .int .u32 (f1 : Int)], .int .i64 S, .slice A1 n1 c1, .slice A2 n2 c2] w fun r w' => r = .returned (.bool true) ∧ Below w.heap.size w w' := by
  subst hS
  have d2 := (dec_i 20 n1).2 (by omega)
  have d3 := (dec_n n2 n1).2 (by omega)
  have hn0a : 512 ≤ n0 := by have := h1.2.1; omega
  have hn0b : n0 ≤ 4096 := by have := h1.2.2; omega
  have H0 := Lib.hid h0
  have H1 := Lib.hid h1
  clear h0 h1
  have L1 := Lib.hid (mPut_length t1 e1 m1 f1 n0 (by omega))
  have hx0 := blk_alloc (heap_alloc_new w (.cells #[.int .u64 (t0 : Int), .int .u32 (e0 : Int), .int .u32 (m0 : Int), .int .u32 (f0 : Int)] 25)) (.cells #[.int .u64 (t1 : Int), .int .u32 (e1 : Int), .int .u32 (m1 : Int), .int .u32 (f1 : Int)] 25)
  have hx1 := heap_alloc_new (w.alloc (.cells #[.int .u64 (t0 : Int), .int .u32 (e0 : Int), .int .u32 (m0 : Int), .int .u32 (f0 : Int)] 25)) (.cells #[.int .u64 (t1 : Int), .int .u32 (e1 : Int), .int .u32 (m1 : Int), .int .u32 (f1 : Int)] 25)
  have hb0 : Below w.heap.size w ((w.alloc (.cells #[.int .u64 (t0 : Int), .int .u32 (e0 : Int), .int .u32 (m0 : Int), .int .u32 (f0 : Int)] 25)).alloc (.cells #[.int .u64 (t1 : Int), .int .u32 (e1 : Int), .int .u32 (m1 : Int), .int .u32 (f1 : Int)] 25)) := ((Below.refl _ _).alloc (Nat.le_refl _) _).alloc (by simp) _
  rw [World.size_alloc] at hx1
  have HX0 := Lib.hid hx0
  have HX1 := Lib.hid hx1
  clear hx0 hx1
  go_enter Try.func5, Try.ntmps5
  go_wp2_with fail
  refine (awake7 _).mono ?_
  rintro r w1 ⟨rfl, hb1'⟩
  have hb1 := hb0.trans (hb1'.mono hb0.size)
  have hx0 := blk_below HX0.out hb1' (blk_lt HX0.out)
  have hx1 := blk_below HX1.out hb1' (blk_lt HX1.out)
  obtain ⟨⟨x00, x01, x02, x03⟩, _⟩ := cell4 hx0
  clear hb0 hb1' HX0 HX1
  go_wp2_with fail
  refine (of_any _ t0 e0 m0 f0).mono ?_
  rintro r w2 ⟨rfl, hb2'⟩
  have hb2 := hb1.trans (hb2'.mono hb1.size)
  have hx1 := blk_below hx1 hb2' (blk_lt hx1)
  have hg0 := blk_alloc (heap_alloc_new w2 (.cells #[.int .u64 (t0 : Int), .int .u32 (e0 : Int), .int .u32 (m0 : Int), .int .u32 (f0 : Int)] 29)) (.cells #[.int .u64 (t0 : Int), .int .u32 (e0 : Int), .int .u32 (m0 : Int), .int .u32 (f0 : Int)] 30)
  have hgw0 : w.heap.size ≤ w2.heap.size := hb2.size
  have hb3 := (hb2.alloc hb2.size (.cells #[.int .u64 (t0 : Int), .int .u32 (e0 : Int), .int .u32 (m0 : Int), .int .u32 (f0 : Int)] 29)).alloc (by have := hb2.size; simp; omega) (.cells #[.int .u64 (t0 : Int), .int .u32 (e0 : Int), .int .u32 (m0 : Int), .int .u32 (f0 : Int)] 30)
  have hx1' := blk_alloc (blk_alloc hx1 (.cells #[.int .u64 (t0 : Int), .int .u32 (e0 : Int), .int .u32 (m0 : Int), .int .u32 (f0 : Int)] 29)) (.cells #[.int .u64 (t0 : Int), .int .u32 (e0 : Int), .int .u32 (m0 : Int), .int .u32 (f0 : Int)] 30)
  obtain ⟨⟨x10, x11, x12, x13⟩, _⟩ := cell4 hx1'
  clear hb1 hb2' x00 x01 x02 x03 hx0 hx1 hb2
  go_wp2_with fail
  generalize (w2.alloc (.cells #[.int .u64 (t0 : Int), .int .u32 (e0 : Int), .int .u32 (m0 : Int), .int .u32 (f0 : Int)] 29)).alloc (.cells #[.int .u64 (t0 : Int), .int .u32 (e0 : Int), .int .u32 (m0 : Int), .int .u32 (f0 : Int)] 30) = w3 at *
  generalize w2.heap.size = g0 at *
  refine (of_any _ t1 e1 m1 f1).mono ?_
  rintro r w4 ⟨rfl, hb4'⟩
  have hb4 := hb3.trans (hb4'.mono hb3.size)
  have hg0 := blk_below hg0 hb4' (blk_lt hg0)
  have hne : g0 ≠ w4.heap.size := by have := blk_lt hg0; omega
  have hg0 := blk_alloc (blk_alloc hg0 (.cells #[.int .u64 (t1 : Int), .int .u32 (e1 : Int), .int .u32 (m1 : Int), .int .u32 (f1 : Int)] 29)) (.cells #[.int .u64 (t1 : Int), .int .u32 (e1 : Int), .int .u32 (m1 : Int), .int .u32 (f1 : Int)] 30)
  have hg1 := blk_alloc (heap_alloc_new w4 (.cells #[.int .u64 (t1 : Int), .int .u32 (e1 : Int), .int .u32 (m1 : Int), .int .u32 (f1 : Int)] 29)) (.cells #[.int .u64 (t1 : Int), .int .u32 (e1 : Int), .int .u32 (m1 : Int), .int .u32 (f1 : Int)] 30)
  have hgw1 : w.heap.size ≤ w4.heap.size := hb4.size
  have hb5 := (hb4.alloc hb4.size (.cells #[.int .u64 (t1 : Int), .int .u32 (e1 : Int), .int .u32 (m1 : Int), .int .u32 (f1 : Int)] 29)).alloc (by have := hb4.size; simp; omega) (.cells #[.int .u64 (t1 : Int), .int .u32 (e1 : Int), .int .u32 (m1 : Int), .int .u32 (f1 : Int)] 30)
  clear hb3 hb4' x10 x11 x12 x13 hx1' hb4
  obtain ⟨⟨a00, a01, a02, a03⟩, b00, b01, b02, b03⟩ := cell4 hg0
  go_wp2_with fail
  clear a00 a01 a02 a03 b00 b01 b02 b03
  generalize (w4.alloc (.cells #[.int .u64 (t1 : Int), .int .u32 (e1 : Int), .int .u32 (m1 : Int), .int .u32 (f1 : Int)] 29)).alloc (.cells #[.int .u64 (t1 : Int), .int .u32 (e1 : Int), .int .u32 (m1 : Int), .int .u32 (f1 : Int)] 30) = w5 at *
  generalize w4.heap.size = g1 at *
  refine (mput_no _ t0 e0 m0 f0 (n0 : Int) ht0 he0 hm0 hf0 H0.out).mono ?_
  rintro r w6 ⟨rfl, hb6'⟩
  have hb6 := hb5.trans (hb6'.mono hb5.size)
  have hg1 := blk_below hg1 hb6' (blk_lt hg1)
  obtain ⟨⟨a10, a11, a12, a13⟩, b10, b11, b12, b13⟩ := cell4 hg1
  clear hb5 hb6' hg0
  go_wp2_with fail
  refine (mput_ok _ t1 e1 m1 f1 n0 ht1 he1 hm1 hf1 H1.out.1 hn0a hn0b).mono ?_
  rintro r w7 ⟨p1, rfl, hp1, hP1, hb7'⟩
  have hpw1 : w.heap.size ≤ p1 := Nat.le_trans hb6.size hp1
  have hb7 := hb6.trans (hb7'.mono hb6.size)
  have hM1i := MB.of_row hP1
  have hl1 := L1.out
  generalize mPut t1 e1 m1 f1 n0 = bi1 at *
  have hla1 : n0 ≤ bi1.length := by omega
  have hlb1 : bi1.length ≤ n0 := by omega
  clear hl1
  clear hb6 hb7' a10 a11 a12 a13 b10 b11 b12 b13 hg1 hP1
  go_wp2_with fail
  go_loopw [20] (fun i wr => ∃ (k : Nat) (b1 : List UInt8), k ≤ n1 ∧ i = .int .i64 (k : Int) ∧ MB wr p1 b1 ∧ n0 ≤ b1.length ∧ b1.length ≤ n0 ∧ Below w.heap.size w wr) (fun i _ => n1 - (intOf i).toNat)
  case atStart => exact ⟨0, bi1, Nat.zero_le _, rfl, hM1i, hla1, hlb1, hb7⟩
  case round =>
    clear hb7 hM1i hla1 hlb1
    obtain ⟨k, b1, hk, rfl, hM1, hlx1, hly1, hbw⟩ := hrel
    by_cases hlt : k < n1
    · rcases (by omega : k % 2 = 0 ∨ k % 2 = 1) with hpar | hpar
      · have y0 : (((k : Int) % 2) == 0) = true := by simp; omega
        have y1 : (((k : Int) % 2) == 1) = false := by simp; omega
        clear hpar
        go_wp2
        go_roundw
        case rel => exact ⟨k + 1, b1, by omega, by go_num, hM1, hlx1, hly1, hbw⟩
        case measure => simp [intOf]; omega
      · have y0 : (((k : Int) % 2) == 0) = false := by simp; omega
        have y1 : (((k : Int) % 2) == 1) = true := by simp; omega
        clear hpar
        have hposb : decide (0 < n0) = true := decide_eq_true (by omega)
        have hposi : decide ((0 : Int) < (n0 : Int)) = true := decide_eq_true (by omega)
        have hnz : ¬ n0 = 0 := by omega
        obtain ⟨z, adz, hA1e, hadz, hzc, hz0, hz1⟩ := (hz.below hbw).at_ hlt
        obtain ⟨adx, xb, hA2e, hadx, _, hxc⟩ := (hx2.below hbw).get (show k < n2 by omega)
        subst hA1e hA2e
        have hkn2 : k < n2 := by omega
        obtain ⟨j, hj, hjn⟩ := spoil_idx z n0 hz0 (by omega)
        have hzw : IntKind.i64.wrap z = z := IntWalk.i64_in _ (by omega)
        obtain ⟨hbc, hbf⟩ := hM1.2 j b1[j] (List.getElem?_eq_getElem (by omega))
        have hxor := xor_byte' b1[j] xb
        have hj0 : (0 : Int) ≤ (j : Int) := by omega
        have hj1 : (j : Int) < (n0 : Int) := by omega
        have hset := hM1.set_ j (b1[j] ^^^ xb) (by omega)
        have hbn := hbw.setCell (p := ⟨p1, j, none⟩) hpw1 (.int .u8 ((b1[j] ^^^ xb).toNat : Int))
        skip
        go_wp2
        refine wp_still_tail 17 (by kernel_rfl) (by kernel_rfl) ?_
        simp only [List.take_succ_cons, List.take_zero, List.drop_succ_cons, List.drop_zero]
        repeat still_step
        refine wpStill_nil ?_
        go_wp2
        go_roundw
        case rel => exact ⟨k + 1, b1.set j (b1[j] ^^^ xb), by omega, by go_num, hset, by simpa using hlx1, by simpa using hly1, hbn.drew⟩
        case measure => simp [intOf]; omega
    · have sA : Sl wr wr.heap.size none 0 0 ([] : List UInt8) := (Sl.nil_ _ _)
      have sB : Sl wr wr.heap.size (some ⟨p1, 0, none⟩) n0 n0 b1 := (hM1.sl (n := n0) (by omega) (Nat.le_refl _))
      have zA : ([] : List UInt8).length ≤ 140737488355328 := by simp
      have zB : b1.length ≤ 140737488355328 := by omega
      clear hk hM1 hlx1 hly1 hz hx2
      go_wp2_with fail
      refine (mchoose_any _ _ _ _ _ _ _ _ _ sA sB (by omega) (by omega)).mono ?_
      rintro r w8 ⟨rfl, hb8'⟩
      have hrc := fun w : World => rchoose_any w ([] : List UInt8) b1 zA zB
      obtain ⟨T, hT⟩ : ∃ T, mChosen ([] : List UInt8) b1 = T := ⟨_, rfl⟩
      obtain ⟨t, e, m, f⟩ := T
      rw [hT] at hrc ⊢
      obtain ⟨E, hE⟩ : ∃ E : Int, (if ((t, e, m, f) : M4).1 = 0 then (24 : Int) else 0) = E := ⟨_, rfl⟩
      rw [hE] at hrc ⊢
      simp only [mCells] at hrc ⊢
      have HRC := Lib.hid hrc
      have hb8 := hbw.trans (hb8'.mono hbw.size)
      have hb9' : Below wr.heap.size wr (w8.alloc (.cells #[.int .u64 (t : Int), .int .u32 (e : Int), .int .u32 (m : Int), .int .u32 (f : Int)] 29)) := hb8'.alloc hb8'.size _
      have hb9 := hb8.alloc hb8.size (.cells #[.int .u64 (t : Int), .int .u32 (e : Int), .int .u32 (m : Int), .int .u32 (f : Int)] 29)
      have hk9 := heap_alloc_new w8 (.cells #[.int .u64 (t : Int), .int .u32 (e : Int), .int .u32 (m : Int), .int .u32 (f : Int)] 29)
      have cA := string_of_sl (P := Try.prog) Try.underlying33 Try.underlying5 Try.underlying9 (sA.below hb9')
      have cB := string_of_sl (P := Try.prog) Try.underlying33 Try.underlying5 Try.underlying9 (sB.below hb9')
      clear hT hE hrc hb8 hb8' hb9' sA sB hbw
      go_wp2_with fail
      generalize w8.alloc (.cells #[.int .u64 (t : Int), .int .u32 (e : Int), .int .u32 (m : Int), .int .u32 (f : Int)] 29) = w9 at *
      generalize w8.heap.size = gk at *
      refine (HRC.out _).mono ?_
      rintro r w10 ⟨rfl, hb10'⟩
      have hb10 := hb9.trans (hb10'.mono hb9.size)
      have hk10 := blk_below hk9 hb10' (blk_lt hk9)
      have hb11 := hb10.alloc hb10.size (.cells #[.int .u64 (t : Int), .int .u32 (e : Int), .int .u32 (m : Int), .int .u32 (f : Int)] 30)
      obtain ⟨⟨k0, k1, k2, k3⟩, _⟩ := cell4 (blk_alloc hk10 (.cells #[.int .u64 (t : Int), .int .u32 (e : Int), .int .u32 (m : Int), .int .u32 (f : Int)] 30))
      clear hb9 hb10 hb10' hk9 hk10 cA cB
      go_wp2_with fail
      refine (same_yes _ t e m f).mono ?_
      rintro r w12 ⟨rfl, hb12'⟩
      have hbz := hb11.trans (hb12'.mono hb11.size)
      go_wp2_with fail
      go_ret
      exact ⟨rfl, hbz⟩

set_option maxRecDepth 20000 in
set_option maxHeartbeats 4000000 in
theorem cho_m00 (w : World) (t0 e0 m0 f0 t1 e1 m1 f1 : Nat) (ht0 : t0 < 18446744073709551616) (he0 : e0 < 4294967296) (hm0 : m0 < 4294967296) (hf0 : f0 < 4294967296) (ht1 : t1 < 18446744073709551616) (he1 : e1 < 4294967296) (hm1 : m1 < 4294967296) (hf1 : f1 < 4294967296) (S : Int) (A1 : Option Addr) (n1 c1 : Nat) (zs : List Int) (hz : Nums .u16 w w.heap.size A1 n1 c1 zs) (A2 : Option Addr) (n2 c2 : Nat) (l2 : List UInt8) (hx2 : Sl w w.heap.size A2 n2 c2 l2) (n0 : Nat) (hS : True) (q0 : n1 ≤ 20) (q1 : n1 ≤ n2) (h0 : ¬ (MRight t0 e0 m0 f0 ∧ 512 ≤ S ∧ S ≤ 4096)) (h1 : ¬ (MRight t1 e1 m1 f1 ∧ 512 ≤ S ∧ S ≤ 4096)) :
    Calls Try.prog 5 #[.agg #[.int .u64 (t0 : Int), .int .u32 (e0 : Int), .int .u32 (m0 : Int), .int .u32 (f0 : Int)], .agg #[.int .u64 (t1 : Int), .int .u32 (e1 : Int), .int .u32 (m1 : Int), .int .u32 (f1 : Int)], .int .i64 S, .slice A1 n1 c1, .slice A2 n2 c2] w fun r w' => r = .returned (.bool true) ∧ Below w.heap.size w w' := by
  have d2 := (dec_i 20 n1).2 (by omega)
  have d3 := (dec_n n2 n1).2 (by omega)
  have H0 := Lib.hid h0
  have H1 := Lib.hid h1
  clear h0 h1
  have hx0 := blk_alloc (heap_alloc_new w (.cells #[.int .u64 (t0 : Int), .int .u32 (e0 : Int), .int .u32 (m0 : Int), .int .u32 (f0 : Int)] 25)) (.cells #[.int .u64 (t1 : Int), .int .u32 (e1 : Int), .int .u32 (m1 : Int), .int .u32 (f1 : Int)] 25)
  have hx1 := heap_alloc_new (w.alloc (.cells #[.int .u64 (t0 : Int), .int .u32 (e0 : Int), .int .u32 (m0 : Int), .int .u32 (f0 : Int)] 25)) (.cells #[.int .u64 (t1 : Int), .int .u32 (e1 : Int), .int .u32 (m1 : Int), .int .u32 (f1 : Int)] 25)
  have hb0 : Below w.heap.size w ((w.alloc (.cells #[.int .u64 (t0 : Int), .int .u32 (e0 : Int), .int .u32 (m0 : Int), .int .u32 (f0 : Int)] 25)).alloc (.cells #[.int .u64 (t1 : Int), .int .u32 (e1 : Int), .int .u32 (m1 : Int), .int .u32 (f1 : Int)] 25)) := ((Below.refl _ _).alloc (Nat.le_refl _) _).alloc (by simp) _
  rw [World.size_alloc] at hx1
  have HX0 := Lib.hid hx0
  have HX1 := Lib.hid hx1
  clear hx0 hx1
  go_enter Try.func5, Try.ntmps5
  go_wp2_with fail
  refine (awake7 _).mono ?_
  rintro r w1 ⟨rfl, hb1'⟩
  have hb1 := hb0.trans (hb1'.mono hb0.size)
  have hx0 := blk_below HX0.out hb1' (blk_lt HX0.out)
  have hx1 := blk_below HX1.out hb1' (blk_lt HX1.out)
  obtain ⟨⟨x00, x01, x02, x03⟩, _⟩ := cell4 hx0
  clear hb0 hb1' HX0 HX1
  go_wp2_with fail
  refine (of_any _ t0 e0 m0 f0).mono ?_
  rintro r w2 ⟨rfl, hb2'⟩
  have hb2 := hb1.trans (hb2'.mono hb1.size)
  have hx1 := blk_below hx1 hb2' (blk_lt hx1)
  have hg0 := blk_alloc (heap_alloc_new w2 (.cells #[.int .u64 (t0 : Int), .int .u32 (e0 : Int), .int .u32 (m0 : Int), .int .u32 (f0 : Int)] 29)) (.cells #[.int .u64 (t0 : Int), .int .u32 (e0 : Int), .int .u32 (m0 : Int), .int .u32 (f0 : Int)] 30)
  have hgw0 : w.heap.size ≤ w2.heap.size := hb2.size
  have hb3 := (hb2.alloc hb2.size (.cells #[.int .u64 (t0 : Int), .int .u32 (e0 : Int), .int .u32 (m0 : Int), .int .u32 (f0 : Int)] 29)).alloc (by have := hb2.size; simp; omega) (.cells #[.int .u64 (t0 : Int), .int .u32 (e0 : Int), .int .u32 (m0 : Int), .int .u32 (f0 : Int)] 30)
  have hx1' := blk_alloc (blk_alloc hx1 (.cells #[.int .u64 (t0 : Int), .int .u32 (e0 : Int), .int .u32 (m0 : Int), .int .u32 (f0 : Int)] 29)) (.cells #[.int .u64 (t0 : Int), .int .u32 (e0 : Int), .int .u32 (m0 : Int), .int .u32 (f0 : Int)] 30)
  obtain ⟨⟨x10, x11, x12, x13⟩, _⟩ := cell4 hx1'
  clear hb1 hb2' x00 x01 x02 x03 hx0 hx1 hb2
  go_wp2_with fail
  generalize (w2.alloc (.cells #[.int .u64 (t0 : Int), .int .u32 (e0 : Int), .int .u32 (m0 : Int), .int .u32 (f0 : Int)] 29)).alloc (.cells #[.int .u64 (t0 : Int), .int .u32 (e0 : Int), .int .u32 (m0 : Int), .int .u32 (f0 : Int)] 30) = w3 at *
  generalize w2.heap.size = g0 at *
  refine (of_any _ t1 e1 m1 f1).mono ?_
  rintro r w4 ⟨rfl, hb4'⟩
  have hb4 := hb3.trans (hb4'.mono hb3.size)
  have hg0 := blk_below hg0 hb4' (blk_lt hg0)
  have hne : g0 ≠ w4.heap.size := by have := blk_lt hg0; omega
  have hg0 := blk_alloc (blk_alloc hg0 (.cells #[.int .u64 (t1 : Int), .int .u32 (e1 : Int), .int .u32 (m1 : Int), .int .u32 (f1 : Int)] 29)) (.cells #[.int .u64 (t1 : Int), .int .u32 (e1 : Int), .int .u32 (m1 : Int), .int .u32 (f1 : Int)] 30)
  have hg1 := blk_alloc (heap_alloc_new w4 (.cells #[.int .u64 (t1 : Int), .int .u32 (e1 : Int), .int .u32 (m1 : Int), .int .u32 (f1 : Int)] 29)) (.cells #[.int .u64 (t1 : Int), .int .u32 (e1 : Int), .int .u32 (m1 : Int), .int .u32 (f1 : Int)] 30)
  have hgw1 : w.heap.size ≤ w4.heap.size := hb4.size
  have hb5 := (hb4.alloc hb4.size (.cells #[.int .u64 (t1 : Int), .int .u32 (e1 : Int), .int .u32 (m1 : Int), .int .u32 (f1 : Int)] 29)).alloc (by have := hb4.size; simp; omega) (.cells #[.int .u64 (t1 : Int), .int .u32 (e1 : Int), .int .u32 (m1 : Int), .int .u32 (f1 : Int)] 30)
  clear hb3 hb4' x10 x11 x12 x13 hx1' hb4
  obtain ⟨⟨a00, a01, a02, a03⟩, b00, b01, b02, b03⟩ := cell4 hg0
  go_wp2_with fail
  clear a00 a01 a02 a03 b00 b01 b02 b03
  generalize (w4.alloc (.cells #[.int .u64 (t1 : Int), .int .u32 (e1 : Int), .int .u32 (m1 : Int), .int .u32 (f1 : Int)] 29)).alloc (.cells #[.int .u64 (t1 : Int), .int .u32 (e1 : Int), .int .u32 (m1 : Int), .int .u32 (f1 : Int)] 30) = w5 at *
  generalize w4.heap.size = g1 at *
  refine (mput_no _ t0 e0 m0 f0 S ht0 he0 hm0 hf0 H0.out).mono ?_
  rintro r w6 ⟨rfl, hb6'⟩
  have hb6 := hb5.trans (hb6'.mono hb5.size)
  have hg1 := blk_below hg1 hb6' (blk_lt hg1)
  obtain ⟨⟨a10, a11, a12, a13⟩, b10, b11, b12, b13⟩ := cell4 hg1
  clear hb5 hb6' hg0
  go_wp2_with fail
  refine (mput_no _ t1 e1 m1 f1 S ht1 he1 hm1 hf1 H1.out).mono ?_
  rintro r w7 ⟨rfl, hb7'⟩
  have hb7 := hb6.trans (hb7'.mono hb6.size)
  clear hb6 hb7' a10 a11 a12 a13 b10 b11 b12 b13 hg1
  go_wp2_with fail
  go_loopw [20] (fun i wr => ∃ (k : Nat), k ≤ n1 ∧ i = .int .i64 (k : Int) ∧ Below w.heap.size w wr) (fun i _ => n1 - (intOf i).toNat)
  case atStart => exact ⟨0, Nat.zero_le _, rfl, hb7⟩
  case round =>
    clear hb7 
    obtain ⟨k, hk, rfl, hbw⟩ := hrel
    by_cases hlt : k < n1
    · rcases (by omega : k % 2 = 0 ∨ k % 2 = 1) with hpar | hpar
      · have y0 : (((k : Int) % 2) == 0) = true := by simp; omega
        have y1 : (((k : Int) % 2) == 1) = false := by simp; omega
        clear hpar
        go_wp2
        go_roundw
        case rel => exact ⟨k + 1, by omega, by go_num, hbw⟩
        case measure => simp [intOf]; omega
      · have y0 : (((k : Int) % 2) == 0) = false := by simp; omega
        have y1 : (((k : Int) % 2) == 1) = true := by simp; omega
        clear hpar
        go_wp2
        go_roundw
        case rel => exact ⟨k + 1, by omega, by go_num, hbw⟩
        case measure => simp [intOf]; omega
    · have sA : Sl wr wr.heap.size none 0 0 ([] : List UInt8) := (Sl.nil_ _ _)
      have sB : Sl wr wr.heap.size none 0 0 ([] : List UInt8) := (Sl.nil_ _ _)
      have zA : ([] : List UInt8).length ≤ 140737488355328 := by simp
      have zB : ([] : List UInt8).length ≤ 140737488355328 := by simp
      clear hk  hz hx2
      go_wp2_with fail
      refine (mchoose_any _ _ _ _ _ _ _ _ _ sA sB (by omega) (by omega)).mono ?_
      rintro r w8 ⟨rfl, hb8'⟩
      have hrc := fun w : World => rchoose_any w ([] : List UInt8) ([] : List UInt8) zA zB
      obtain ⟨T, hT⟩ : ∃ T, mChosen ([] : List UInt8) ([] : List UInt8) = T := ⟨_, rfl⟩
      obtain ⟨t, e, m, f⟩ := T
      rw [hT] at hrc ⊢
      obtain ⟨E, hE⟩ : ∃ E : Int, (if ((t, e, m, f) : M4).1 = 0 then (24 : Int) else 0) = E := ⟨_, rfl⟩
      rw [hE] at hrc ⊢
      simp only [mCells] at hrc ⊢
      have HRC := Lib.hid hrc
      have hb8 := hbw.trans (hb8'.mono hbw.size)
      have hb9' : Below wr.heap.size wr (w8.alloc (.cells #[.int .u64 (t : Int), .int .u32 (e : Int), .int .u32 (m : Int), .int .u32 (f : Int)] 29)) := hb8'.alloc hb8'.size _
      have hb9 := hb8.alloc hb8.size (.cells #[.int .u64 (t : Int), .int .u32 (e : Int), .int .u32 (m : Int), .int .u32 (f : Int)] 29)
      have hk9 := heap_alloc_new w8 (.cells #[.int .u64 (t : Int), .int .u32 (e : Int), .int .u32 (m : Int), .int .u32 (f : Int)] 29)
      have cA := string_of_sl (P := Try.prog) Try.underlying33 Try.underlying5 Try.underlying9 (sA.below hb9')
      have cB := string_of_sl (P := Try.prog) Try.underlying33 Try.underlying5 Try.underlying9 (sB.below hb9')
      clear hT hE hrc hb8 hb8' hb9' sA sB hbw
      go_wp2_with fail
      generalize w8.alloc (.cells #[.int .u64 (t : Int), .int .u32 (e : Int), .int .u32 (m : Int), .int .u32 (f : Int)] 29) = w9 at *
      generalize w8.heap.size = gk at *
      refine (HRC.out _).mono ?_
      rintro r w10 ⟨rfl, hb10'⟩
      have hb10 := hb9.trans (hb10'.mono hb9.size)
      have hk10 := blk_below hk9 hb10' (blk_lt hk9)
      have hb11 := hb10.alloc hb10.size (.cells #[.int .u64 (t : Int), .int .u32 (e : Int), .int .u32 (m : Int), .int .u32 (f : Int)] 30)
      obtain ⟨⟨k0, k1, k2, k3⟩, _⟩ := cell4 (blk_alloc hk10 (.cells #[.int .u64 (t : Int), .int .u32 (e : Int), .int .u32 (m : Int), .int .u32 (f : Int)] 30))
      clear hb9 hb10 hb10' hk9 hk10 cA cB
      go_wp2_with fail
      refine (same_yes _ t e m f).mono ?_
      rintro r w12 ⟨rfl, hb12'⟩
      have hbz := hb11.trans (hb12'.mono hb11.size)
      go_wp2_with fail
      go_ret
      exact ⟨rfl, hbz⟩

set_option maxRecDepth 20000 in
set_option maxHeartbeats 4000000 in
theorem metaChooses_law (w : World) (t0 e0 m0 f0 t1 e1 m1 f1 : Nat) (ht0 : t0 < 18446744073709551616) (he0 : e0 < 4294967296) (hm0 : m0 < 4294967296) (hf0 : f0 < 4294967296) (ht1 : t1 < 18446744073709551616) (he1 : e1 < 4294967296) (hm1 : m1 < 4294967296) (hf1 : f1 < 4294967296) (S : Int) (A1 : Option Addr) (n1 c1 : Nat) (zs : List Int) (hz : Nums .u16 w w.heap.size A1 n1 c1 zs) (A2 : Option Addr) (n2 c2 : Nat) (l2 : List UInt8) (hx2 : Sl w w.heap.size A2 n2 c2 l2)  :
    Calls Try.prog 5 #[.agg #[.int .u64 (t0 : Int), .int .u32 (e0 : Int), .int .u32 (m0 : Int), .int .u32 (f0 : Int)], .agg #[.int .u64 (t1 : Int), .int .u32 (e1 : Int), .int .u32 (m1 : Int), .int .u32 (f1 : Int)], .int .i64 S, .slice A1 n1 c1, .slice A2 n2 c2] w fun r w' => r = .returned (.bool true) ∧ Below w.heap.size w w' := by
  by_cases q0 : 20 < n1
  · exact cho_e0 w t0 e0 m0 f0 t1 e1 m1 f1 ht0 he0 hm0 hf0 ht1 he1 hm1 hf1 S A1 n1 c1 zs hz A2 n2 c2 l2 hx2 q0
  by_cases q1 : n2 < n1
  · exact cho_e1 w t0 e0 m0 f0 t1 e1 m1 f1 ht0 he0 hm0 hf0 ht1 he1 hm1 hf1 S A1 n1 c1 zs hz A2 n2 c2 l2 hx2 (by omega) q1
  by_cases h0 : MRight t0 e0 m0 f0 ∧ 512 ≤ S ∧ S ≤ 4096
  · obtain ⟨n0, hn0⟩ := Int.eq_ofNat_of_zero_le (show 0 ≤ S by omega)
    by_cases h1 : MRight t1 e1 m1 f1 ∧ 512 ≤ S ∧ S ≤ 4096
    · exact cho_m11 w t0 e0 m0 f0 t1 e1 m1 f1 ht0 he0 hm0 hf0 ht1 he1 hm1 hf1 S A1 n1 c1 zs hz A2 n2 c2 l2 hx2 n0 hn0 (by omega) (by omega) h0 h1
    · exact cho_m10 w t0 e0 m0 f0 t1 e1 m1 f1 ht0 he0 hm0 hf0 ht1 he1 hm1 hf1 S A1 n1 c1 zs hz A2 n2 c2 l2 hx2 n0 hn0 (by omega) (by omega) h0 h1
  · by_cases h1 : MRight t1 e1 m1 f1 ∧ 512 ≤ S ∧ S ≤ 4096
    · obtain ⟨n0, hn0⟩ := Int.eq_ofNat_of_zero_le (show 0 ≤ S by omega)
      exact cho_m01 w t0 e0 m0 f0 t1 e1 m1 f1 ht0 he0 hm0 hf0 ht1 he1 hm1 hf1 S A1 n1 c1 zs hz A2 n2 c2 l2 hx2 n0 hn0 (by omega) (by omega) h0 h1
    · exact cho_m00 w t0 e0 m0 f0 t1 e1 m1 f1 ht0 he0 hm0 hf0 ht1 he1 hm1 hf1 S A1 n1 c1 zs hz A2 n2 c2 l2 hx2 0 trivial (by omega) (by omega) h0 h1

end Go.Proofs.Ytpipgeboddaipaa
