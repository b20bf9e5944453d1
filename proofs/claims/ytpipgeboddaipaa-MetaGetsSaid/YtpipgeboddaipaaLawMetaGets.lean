/- Layer 7's statement: MetaGets. -/
import Derived.Test.YtpipgeboddaipaaLawMetaChooses
import Derived.Test.YtpipgeboddaipaaMetaZ
import Derived.Lib.ConvBytes
namespace Go.Proofs.Ytpipgeboddaipaa
open Go.RowKit
set_option linter.unusedVariables false
set_option linter.unusedSimpArgs false

set_option maxRecDepth 20000 in
set_option maxHeartbeats 4000000 in
theorem gets_e0 (w : World) (t0 e0 m0 f0 : Nat) (ht0 : t0 < 18446744073709551616) (he0 : e0 < 4294967296) (hm0 : m0 < 4294967296) (hf0 : f0 < 4294967296) (S : Int) (A1 : Option Addr) (n1 c1 : Nat) (zs : List Int) (hz : Nums .u16 w w.heap.size A1 n1 c1 zs) (A2 : Option Addr) (n2 c2 : Nat) (l2 : List UInt8) (hx2 : Sl w w.heap.size A2 n2 c2 l2) (sum : Bool) (q : 20 < n1) :
    Calls Try.prog 4 #[.agg #[.int .u64 (t0 : Int), .int .u32 (e0 : Int), .int .u32 (m0 : Int), .int .u32 (f0 : Int)], .int .i64 S, .slice A1 n1 c1, .slice A2 n2 c2, .bool sum] w fun r w' => r = .returned (.bool true) ∧ Below w.heap.size w w' := by
  have d2 := (dec_i 20 n1).1 (by omega)
  clear q
  have hb0 : Below w.heap.size w (w.alloc (.cells #[.int .u64 (t0 : Int), .int .u32 (e0 : Int), .int .u32 (m0 : Int), .int .u32 (f0 : Int)] 25)) := (Below.refl _ _).alloc (Nat.le_refl _) _
  clear hz hx2
  go_enter Try.func4, Try.ntmps4
  go_wp2_with fail
  refine (awake7 _).mono ?_
  rintro r w1 ⟨rfl, hb1'⟩
  have hb1 := hb0.trans (hb1'.mono hb0.size)
  clear hb0 hb1'
  go_wp2_with fail
  go_ret
  exact ⟨rfl, hb1⟩

set_option maxRecDepth 20000 in
set_option maxHeartbeats 4000000 in
theorem gets_e1 (w : World) (t0 e0 m0 f0 : Nat) (ht0 : t0 < 18446744073709551616) (he0 : e0 < 4294967296) (hm0 : m0 < 4294967296) (hf0 : f0 < 4294967296) (S : Int) (A1 : Option Addr) (n1 c1 : Nat) (zs : List Int) (hz : Nums .u16 w w.heap.size A1 n1 c1 zs) (A2 : Option Addr) (n2 c2 : Nat) (l2 : List UInt8) (hx2 : Sl w w.heap.size A2 n2 c2 l2) (sum : Bool) (q0 : n1 ≤ 20) (q : n2 < n1) :
    Calls Try.prog 4 #[.agg #[.int .u64 (t0 : Int), .int .u32 (e0 : Int), .int .u32 (m0 : Int), .int .u32 (f0 : Int)], .int .i64 S, .slice A1 n1 c1, .slice A2 n2 c2, .bool sum] w fun r w' => r = .returned (.bool true) ∧ Below w.heap.size w w' := by
  have d2 := (dec_i 20 n1).2 (by omega)
  have d3 := (dec_n n2 n1).1 (by omega)
  clear q
  have hb0 : Below w.heap.size w (w.alloc (.cells #[.int .u64 (t0 : Int), .int .u32 (e0 : Int), .int .u32 (m0 : Int), .int .u32 (f0 : Int)] 25)) := (Below.refl _ _).alloc (Nat.le_refl _) _
  clear hz hx2
  go_enter Try.func4, Try.ntmps4
  go_wp2_with fail
  refine (awake7 _).mono ?_
  rintro r w1 ⟨rfl, hb1'⟩
  have hb1 := hb0.trans (hb1'.mono hb0.size)
  clear hb0 hb1'
  go_wp2_with fail
  go_ret
  exact ⟨rfl, hb1⟩

set_option maxRecDepth 20000 in
set_option maxHeartbeats 4000000 in
theorem gets_e2 (w : World) (t0 e0 m0 f0 : Nat) (ht0 : t0 < 18446744073709551616) (he0 : e0 < 4294967296) (hm0 : m0 < 4294967296) (hf0 : f0 < 4294967296) (S : Int) (A1 : Option Addr) (n1 c1 : Nat) (zs : List Int) (hz : Nums .u16 w w.heap.size A1 n1 c1 zs) (A2 : Option Addr) (n2 c2 : Nat) (l2 : List UInt8) (hx2 : Sl w w.heap.size A2 n2 c2 l2) (sum : Bool) (q0 : n1 ≤ 20) (q1 : n1 ≤ n2) (q : 5000 < n2) :
    Calls Try.prog 4 #[.agg #[.int .u64 (t0 : Int), .int .u32 (e0 : Int), .int .u32 (m0 : Int), .int .u32 (f0 : Int)], .int .i64 S, .slice A1 n1 c1, .slice A2 n2 c2, .bool sum] w fun r w' => r = .returned (.bool true) ∧ Below w.heap.size w w' := by
  have d2 := (dec_i 20 n1).2 (by omega)
  have d3 := (dec_n n2 n1).2 (by omega)
  have d4 := (dec_i 5000 n2).1 (by omega)
  clear q
  have hb0 : Below w.heap.size w (w.alloc (.cells #[.int .u64 (t0 : Int), .int .u32 (e0 : Int), .int .u32 (m0 : Int), .int .u32 (f0 : Int)] 25)) := (Below.refl _ _).alloc (Nat.le_refl _) _
  clear hz hx2
  go_enter Try.func4, Try.ntmps4
  go_wp2_with fail
  refine (awake7 _).mono ?_
  rintro r w1 ⟨rfl, hb1'⟩
  have hb1 := hb0.trans (hb1'.mono hb0.size)
  clear hb0 hb1'
  go_wp2_with fail
  go_ret
  exact ⟨rfl, hb1⟩

set_option maxRecDepth 20000 in
set_option maxHeartbeats 4000000 in
theorem gets_ok (w : World) (t0 e0 m0 f0 : Nat) (ht0 : t0 < 18446744073709551616) (he0 : e0 < 4294967296) (hm0 : m0 < 4294967296) (hf0 : f0 < 4294967296) (S : Int) (A1 : Option Addr) (n1 c1 : Nat) (zs : List Int) (hz : Nums .u16 w w.heap.size A1 n1 c1 zs) (A2 : Option Addr) (n2 c2 : Nat) (l2 : List UInt8) (hx2 : Sl w w.heap.size A2 n2 c2 l2) (sum : Bool) (n0 : Nat) (hS : S = (n0 : Int)) (q0 : n1 ≤ 20) (q1 : n1 ≤ n2) (q2 : n2 ≤ 5000) (s1 : 512 ≤ n0) (s2 : n0 ≤ 4096) (hR0 : MRight t0 e0 m0 f0) :
    Calls Try.prog 4 #[.agg #[.int .u64 (t0 : Int), .int .u32 (e0 : Int), .int .u32 (m0 : Int), .int .u32 (f0 : Int)], .int .i64 S, .slice A1 n1 c1, .slice A2 n2 c2, .bool sum] w fun r w' => r = .returned (.bool true) ∧ Below w.heap.size w w' := by
  subst hS
  have d2 := (dec_i 20 n1).2 (by omega)
  have d3 := (dec_n n2 n1).2 (by omega)
  have d4 := (dec_i 5000 n2).2 (by omega)
  have L0 := mPut_length t0 e0 m0 f0 n0 (by omega)
  have HL0 := Lib.hid L0
  clear L0
  have hx0 := heap_alloc_new w (.cells #[.int .u64 (t0 : Int), .int .u32 (e0 : Int), .int .u32 (m0 : Int), .int .u32 (f0 : Int)] 25)
  have hb0 : Below w.heap.size w (w.alloc (.cells #[.int .u64 (t0 : Int), .int .u32 (e0 : Int), .int .u32 (m0 : Int), .int .u32 (f0 : Int)] 25)) := (Below.refl _ _).alloc (Nat.le_refl _) _
  have HX0 := Lib.hid hx0
  clear hx0
  go_enter Try.func4, Try.ntmps4
  go_wp2_with fail
  refine (awake7 _).mono ?_
  rintro r w1 ⟨rfl, hb1'⟩
  have hb1 := hb0.trans (hb1'.mono hb0.size)
  have hx0 := blk_below HX0.out hb1' (blk_lt HX0.out)
  obtain ⟨⟨x00, x01, x02, x03⟩, _⟩ := cell4 hx0
  clear hb0 hb1' HX0
  go_wp2_with fail
  refine (of_any _ t0 e0 m0 f0).mono ?_
  rintro r w2 ⟨rfl, hb2'⟩
  have hb2 := hb1.trans (hb2'.mono hb1.size)
  have hx0 := blk_below hx0 hb2' (blk_lt hx0)
  have hx0 := blk_alloc (blk_alloc hx0 (.cells #[.int .u64 (t0 : Int), .int .u32 (e0 : Int), .int .u32 (m0 : Int), .int .u32 (f0 : Int)] 29)) (.cells #[.int .u64 (t0 : Int), .int .u32 (e0 : Int), .int .u32 (m0 : Int), .int .u32 (f0 : Int)] 30)
  have hg0 := blk_alloc (heap_alloc_new w2 (.cells #[.int .u64 (t0 : Int), .int .u32 (e0 : Int), .int .u32 (m0 : Int), .int .u32 (f0 : Int)] 29)) (.cells #[.int .u64 (t0 : Int), .int .u32 (e0 : Int), .int .u32 (m0 : Int), .int .u32 (f0 : Int)] 30)
  have hr0 := heap_alloc_new (w2.alloc (.cells #[.int .u64 (t0 : Int), .int .u32 (e0 : Int), .int .u32 (m0 : Int), .int .u32 (f0 : Int)] 29)) (.cells #[.int .u64 (t0 : Int), .int .u32 (e0 : Int), .int .u32 (m0 : Int), .int .u32 (f0 : Int)] 30)
  rw [World.size_alloc] at hr0
  have hgw0 : w.heap.size ≤ w2.heap.size := hb2.size
  have hb3 := (hb2.alloc hb2.size (.cells #[.int .u64 (t0 : Int), .int .u32 (e0 : Int), .int .u32 (m0 : Int), .int .u32 (f0 : Int)] 29)).alloc (by have := hb2.size; simp; omega) (.cells #[.int .u64 (t0 : Int), .int .u32 (e0 : Int), .int .u32 (m0 : Int), .int .u32 (f0 : Int)] 30)
  clear hb1 hb2' x00 x01 x02 x03 hb2
  go_wp2_with fail
  generalize (w2.alloc (.cells #[.int .u64 (t0 : Int), .int .u32 (e0 : Int), .int .u32 (m0 : Int), .int .u32 (f0 : Int)] 29)).alloc (.cells #[.int .u64 (t0 : Int), .int .u32 (e0 : Int), .int .u32 (m0 : Int), .int .u32 (f0 : Int)] 30) = w3 at *
  generalize w2.heap.size = g0 at *
  refine (mput_ok _ t0 e0 m0 f0 n0 ht0 he0 hm0 hf0 hR0 s1 s2).mono ?_
  rintro r w6 ⟨g, rfl, hp0, hP0, hb6'⟩
  have hgw : w.heap.size ≤ g := Nat.le_trans hb3.size hp0
  have hb6 := hb3.trans (hb6'.mono hb3.size)
  have hmb0 := MB.of_row hP0
  have hl0 := HL0.out
  generalize mPut t0 e0 m0 f0 n0 = b0 at *
  have hl01 : n0 ≤ b0.length := by omega
  have hl02 : b0.length ≤ n0 := by omega
  have hcap : n0 ≤ n0 := Nat.le_refl _
  clear hb3 hb6' hg0 hr0 hP0 hl0 HL0
  go_wp2_with fail
  go_loopw [16] (fun i wr => ∃ (k : Nat) (bl : List UInt8), k ≤ n1 ∧ i = .int .i64 k ∧ MB wr g bl ∧ n0 ≤ bl.length ∧ bl.length ≤ n0 ∧ Below w.heap.size w wr) (fun i _ => n1 - (intOf i).toNat)
  case atStart => exact ⟨0, b0, Nat.zero_le _, rfl, hmb0, hl01, hl02, hb6⟩
  case round =>
    obtain ⟨k, bl, hk, rfl, hmb, hl1, hl2, hbw⟩ := hrel
    by_cases hlt : k < n1
    · by_cases hpos : 0 < n0
      · have hposb : decide (0 < n0) = true := decide_eq_true hpos
        have hkn2 : k < n2 := by omega
        have hnz : ¬ n0 = 0 := by omega
        obtain ⟨z, adz, rfl, hadz, hzc, hz0, hz1⟩ := (hz.below hbw).at_ hlt
        obtain ⟨adx, xb, rfl, hadx, _, hxc⟩ := (hx2.below hbw).get (show k < n2 by omega)
        obtain ⟨j, hj, hjn⟩ := spoil_idx z n0 hz0 hpos
        have hzw : IntKind.i64.wrap z = z := IntWalk.i64_in _ (by omega)
        obtain ⟨hbc, hbf⟩ := hmb.2 j bl[j] (List.getElem?_eq_getElem (by omega))
        have hxor := xor_byte' bl[j] xb
        have hj0 : (0 : Int) ≤ (j : Int) := by omega
        have hj1 : (j : Int) < (n0 : Int) := by omega
        have hset := hmb.set_ j (bl[j] ^^^ xb) (by omega)
        have hbn := hbw.setCell (p := ⟨g, j, none⟩) hgw (.int .u8 ((bl[j] ^^^ xb).toNat : Int))
        go_wp2
        refine wp_still_tail 17 (by kernel_rfl) (by kernel_rfl) ?_
        simp only [List.take_succ_cons, List.take_zero, List.drop_succ_cons, List.drop_zero]
        repeat still_step
        refine wpStill_nil ?_
        go_wp2
        go_roundw
        case rel => exact ⟨k + 1, bl.set j (bl[j] ^^^ xb), by omega, by go_num, hset, by simpa using hl1, by simpa using hl2, hbn.drew⟩
        case measure => simp [intOf]; omega
      · exact absurd (show 0 < n0 by omega) hpos
    · have sB0 : Sl wr wr.heap.size (some ⟨g, 0, none⟩) n0 n0 bl := hmb.sl (by omega) hcap
      clear hmb hl1 hl2 hk
      cases sum with
      | false =>
        have hbq := hbw
        have sB := sB0
        clear hbw sB0
        have hlenq := sB.len
        have HLQ := Lib.hid hlenq
        have zA : bl.length ≤ 140737488355328 := by omega
        rcases mGet_cases bl with ⟨t, e, m, f, hg, hR, ht, he, hm, hf⟩ | ⟨X, hg, hX⟩
        · have HG := Lib.hid hg
          have h5a := (mGet_some hg).2.2.2.2.1
          have h5b := (mGet_some hg).2.2.2.2.2.1
          have h6a : 512 ≤ n0 := by omega
          have h6b : n0 ≤ 4096 := by omega
          have HPG := Lib.hid (mPut_of_get hg)
          clear hg hlenq
          go_wp2_with fail
          refine (mget_is _ _ _ _ _ bl t e m f sB (by omega) HG).mono ?_
          rintro r w3q ⟨rfl, hb3q'⟩
          have hb3q := hbq.trans (hb3q'.mono hbq.size)
          have sC := (sB.below hb3q').lt'.below ((Below.refl _ _).alloc (Nat.le_refl _) (.cells #[.int .u64 (t : Int), .int .u32 (e : Int), .int .u32 (m : Int), .int .u32 (f : Int)] 29))
          have hk3 := heap_alloc_new w3q (.cells #[.int .u64 (t : Int), .int .u32 (e : Int), .int .u32 (m : Int), .int .u32 (f : Int)] 29)
          have hb4q := hb3q.alloc hb3q.size (.cells #[.int .u64 (t : Int), .int .u32 (e : Int), .int .u32 (m : Int), .int .u32 (f : Int)] 29)
          have cvA := string_of_sl (P := Try.prog) Try.underlying33 Try.underlying5 Try.underlying9 sC
          have HSC := Lib.hid sC
          clear hb3q hb3q' sB hbq sC
          go_wp2_with fail
          generalize w3q.alloc (.cells #[.int .u64 (t : Int), .int .u32 (e : Int), .int .u32 (m : Int), .int .u32 (f : Int)] 29) = w4q at *
          have sC := HSC.out.lt'
          generalize w3q.heap.size = gk at *
          refine (rget_is _ bl t e m f zA HG).mono ?_
          rintro r w5q ⟨rfl, hb5q'⟩
          have hb5q := hb4q.trans (hb5q'.mono hb4q.size)
          have sD := (sC.below hb5q').lt'.below ((Below.refl _ _).alloc (Nat.le_refl _) (.cells #[.int .u64 (t : Int), .int .u32 (e : Int), .int .u32 (m : Int), .int .u32 (f : Int)] 30))
          have hk5 := blk_alloc (blk_below hk3 hb5q' (blk_lt hk3)) (.cells #[.int .u64 (t : Int), .int .u32 (e : Int), .int .u32 (m : Int), .int .u32 (f : Int)] 30)
          have hb6q := hb5q.alloc hb5q.size (.cells #[.int .u64 (t : Int), .int .u32 (e : Int), .int .u32 (m : Int), .int .u32 (f : Int)] 30)
          obtain ⟨⟨k0, k1, k2, k3⟩, _⟩ := cell4 hk5
          have HSD := Lib.hid sD
          clear hb4q hb5q hb5q' hk3 cvA sC sD
          go_wp2_with fail
          generalize w5q.alloc (.cells #[.int .u64 (t : Int), .int .u32 (e : Int), .int .u32 (m : Int), .int .u32 (f : Int)] 30) = w6q at *
          have sD := HSD.out.lt'
          clear k0 k1 k2 k3
          refine (same_yes _ t e m f).mono ?_
          rintro r w7q ⟨rfl, hb7q'⟩
          have hb7q := hb6q.trans (hb7q'.mono hb6q.size)
          have sE := (sD.below hb7q').lt'
          have HSE := Lib.hid sE
          have hk7 := blk_below hk5 hb7q' (blk_lt hk5)
          obtain ⟨⟨k0, k1, k2, k3⟩, _⟩ := cell4 hk7
          clear hb6q hb7q' hk5 sD sE
          go_wp2_with fail
          refine (mput_ok _ t e m f n0 ht he hm hf hR h6a h6b).mono ?_
          rintro r w8q ⟨p8, rfl, _, hP8, hb8q'⟩
          have hbz := hb7q.trans (hb8q'.mono hb7q.size)
          have hpl := HPG.out
          rw [HLQ.out] at hpl
          rw [hpl] at hP8
          have sF := HSE.out.below hb8q'
          have cv1 := string_of_sl (P := Try.prog) Try.underlying33 Try.underlying5 Try.underlying9 sF
          have cv2 := string_of_sl (P := Try.prog) Try.underlying33 Try.underlying5 Try.underlying9 (hP8.slN HLQ.out (by omega))
          clear hpl hb7q hb8q' sF hP8 hk7 k0 k1 k2 k3
          go_wp2_with fail
          go_ret
          exact ⟨rfl, hbz⟩
        · have HG := Lib.hid hg
          have hX0 : (X == 0) = false := by rcases hX with rfl | rfl <;> rfl
          clear hg hlenq
          go_wp2_with fail
          refine (mget_none _ _ _ _ _ bl X sB (by omega) HG).mono ?_
          rintro r w3q ⟨rfl, hb3q'⟩
          have hb3q := hbq.trans (hb3q'.mono hbq.size)
          have sC := (sB.below hb3q').lt'.below ((Below.refl _ _).alloc (Nat.le_refl _) (.cells #[.int .u64 0, .int .u32 0, .int .u32 0, .int .u32 0] 29))
          have hk3 := heap_alloc_new w3q (.cells #[.int .u64 0, .int .u32 0, .int .u32 0, .int .u32 0] 29)
          have hb4q := hb3q.alloc hb3q.size (.cells #[.int .u64 0, .int .u32 0, .int .u32 0, .int .u32 0] 29)
          have cvA := string_of_sl (P := Try.prog) Try.underlying33 Try.underlying5 Try.underlying9 sC
          have HSC := Lib.hid sC
          clear hb3q hb3q' sB hbq sC
          go_wp2_with fail
          generalize w3q.alloc (.cells #[.int .u64 0, .int .u32 0, .int .u32 0, .int .u32 0] 29) = w4q at *
          generalize w3q.heap.size = gk at *
          refine (rget_none _ bl X zA HG).mono ?_
          rintro r w5q ⟨rfl, hb5q'⟩
          have hb5q := hb4q.trans (hb5q'.mono hb4q.size)
          have hk5 := blk_alloc (blk_below hk3 hb5q' (blk_lt hk3)) (.cells #[.int .u64 0, .int .u32 0, .int .u32 0, .int .u32 0] 30)
          have hb6q := hb5q.alloc hb5q.size (.cells #[.int .u64 0, .int .u32 0, .int .u32 0, .int .u32 0] 30)
          obtain ⟨⟨k0, k1, k2, k3⟩, _⟩ := cell4 hk5
          clear hb4q hb5q hb5q' hk3 cvA
          go_wp2_with fail
          refine (same_yes _ 0 0 0 0).mono ?_
          rintro r w7q ⟨rfl, hb7q'⟩
          have hbz := hb6q.trans (hb7q'.mono hb6q.size)
          clear hb6q hb7q'
          rcases hX with rfl | rfl
          · go_wp2_with fail
            go_ret
            exact ⟨rfl, hbz⟩
          · go_wp2_with fail
            go_ret
            exact ⟨rfl, hbz⟩
      | true =>
        by_cases h32 : 32 ≤ n0
        · have d32 : decide ((32 : Int) ≤ (n0 : Int)) = true := decide_eq_true (by omega)
          have d32n : decide (32 ≤ n0) = true := decide_eq_true h32
          go_wp2_with fail
          refine (refit_any _ _ _ _ _ bl sB0 h32 (by omega)).mono ?_
          rintro r wq ⟨AA, CC, LL, rfl, sB, hbq'⟩
          have hbq := hbw.trans (hbq'.mono hbw.size)
          clear hbw hbq' sB0 d32 d32n h32
          have hlenq := sB.len
          have HLQ := Lib.hid hlenq
          have zA : LL.length ≤ 140737488355328 := by omega
          rcases mGet_cases LL with ⟨t, e, m, f, hg, hR, ht, he, hm, hf⟩ | ⟨X, hg, hX⟩
          · have HG := Lib.hid hg
            have h5a := (mGet_some hg).2.2.2.2.1
            have h5b := (mGet_some hg).2.2.2.2.2.1
            have h6a : 512 ≤ n0 := by omega
            have h6b : n0 ≤ 4096 := by omega
            have HPG := Lib.hid (mPut_of_get hg)
            clear hg hlenq
            go_wp2_with fail
            refine (mget_is _ _ _ _ _ LL t e m f sB (by omega) HG).mono ?_
            rintro r w3q ⟨rfl, hb3q'⟩
            have hb3q := hbq.trans (hb3q'.mono hbq.size)
            have sC := (sB.below hb3q').lt'.below ((Below.refl _ _).alloc (Nat.le_refl _) (.cells #[.int .u64 (t : Int), .int .u32 (e : Int), .int .u32 (m : Int), .int .u32 (f : Int)] 29))
            have hk3 := heap_alloc_new w3q (.cells #[.int .u64 (t : Int), .int .u32 (e : Int), .int .u32 (m : Int), .int .u32 (f : Int)] 29)
            have hb4q := hb3q.alloc hb3q.size (.cells #[.int .u64 (t : Int), .int .u32 (e : Int), .int .u32 (m : Int), .int .u32 (f : Int)] 29)
            have cvA := string_of_sl (P := Try.prog) Try.underlying33 Try.underlying5 Try.underlying9 sC
            have HSC := Lib.hid sC
            clear hb3q hb3q' sB hbq sC
            go_wp2_with fail
            generalize w3q.alloc (.cells #[.int .u64 (t : Int), .int .u32 (e : Int), .int .u32 (m : Int), .int .u32 (f : Int)] 29) = w4q at *
            have sC := HSC.out.lt'
            generalize w3q.heap.size = gk at *
            refine (rget_is _ LL t e m f zA HG).mono ?_
            rintro r w5q ⟨rfl, hb5q'⟩
            have hb5q := hb4q.trans (hb5q'.mono hb4q.size)
            have sD := (sC.below hb5q').lt'.below ((Below.refl _ _).alloc (Nat.le_refl _) (.cells #[.int .u64 (t : Int), .int .u32 (e : Int), .int .u32 (m : Int), .int .u32 (f : Int)] 30))
            have hk5 := blk_alloc (blk_below hk3 hb5q' (blk_lt hk3)) (.cells #[.int .u64 (t : Int), .int .u32 (e : Int), .int .u32 (m : Int), .int .u32 (f : Int)] 30)
            have hb6q := hb5q.alloc hb5q.size (.cells #[.int .u64 (t : Int), .int .u32 (e : Int), .int .u32 (m : Int), .int .u32 (f : Int)] 30)
            obtain ⟨⟨k0, k1, k2, k3⟩, _⟩ := cell4 hk5
            have HSD := Lib.hid sD
            clear hb4q hb5q hb5q' hk3 cvA sC sD
            go_wp2_with fail
            generalize w5q.alloc (.cells #[.int .u64 (t : Int), .int .u32 (e : Int), .int .u32 (m : Int), .int .u32 (f : Int)] 30) = w6q at *
            have sD := HSD.out.lt'
            clear k0 k1 k2 k3
            refine (same_yes _ t e m f).mono ?_
            rintro r w7q ⟨rfl, hb7q'⟩
            have hb7q := hb6q.trans (hb7q'.mono hb6q.size)
            have sE := (sD.below hb7q').lt'
            have HSE := Lib.hid sE
            have hk7 := blk_below hk5 hb7q' (blk_lt hk5)
            obtain ⟨⟨k0, k1, k2, k3⟩, _⟩ := cell4 hk7
            clear hb6q hb7q' hk5 sD sE
            go_wp2_with fail
            refine (mput_ok _ t e m f n0 ht he hm hf hR h6a h6b).mono ?_
            rintro r w8q ⟨p8, rfl, _, hP8, hb8q'⟩
            have hbz := hb7q.trans (hb8q'.mono hb7q.size)
            have hpl := HPG.out
            rw [HLQ.out] at hpl
            rw [hpl] at hP8
            have sF := HSE.out.below hb8q'
            have cv1 := string_of_sl (P := Try.prog) Try.underlying33 Try.underlying5 Try.underlying9 sF
            have cv2 := string_of_sl (P := Try.prog) Try.underlying33 Try.underlying5 Try.underlying9 (hP8.slN HLQ.out (by omega))
            clear hpl hb7q hb8q' sF hP8 hk7 k0 k1 k2 k3
            go_wp2_with fail
            go_ret
            exact ⟨rfl, hbz⟩
          · have HG := Lib.hid hg
            have hX0 : (X == 0) = false := by rcases hX with rfl | rfl <;> rfl
            clear hg hlenq
            go_wp2_with fail
            refine (mget_none _ _ _ _ _ LL X sB (by omega) HG).mono ?_
            rintro r w3q ⟨rfl, hb3q'⟩
            have hb3q := hbq.trans (hb3q'.mono hbq.size)
            have sC := (sB.below hb3q').lt'.below ((Below.refl _ _).alloc (Nat.le_refl _) (.cells #[.int .u64 0, .int .u32 0, .int .u32 0, .int .u32 0] 29))
            have hk3 := heap_alloc_new w3q (.cells #[.int .u64 0, .int .u32 0, .int .u32 0, .int .u32 0] 29)
            have hb4q := hb3q.alloc hb3q.size (.cells #[.int .u64 0, .int .u32 0, .int .u32 0, .int .u32 0] 29)
            have cvA := string_of_sl (P := Try.prog) Try.underlying33 Try.underlying5 Try.underlying9 sC
            have HSC := Lib.hid sC
            clear hb3q hb3q' sB hbq sC
            go_wp2_with fail
            generalize w3q.alloc (.cells #[.int .u64 0, .int .u32 0, .int .u32 0, .int .u32 0] 29) = w4q at *
            generalize w3q.heap.size = gk at *
            refine (rget_none _ LL X zA HG).mono ?_
            rintro r w5q ⟨rfl, hb5q'⟩
            have hb5q := hb4q.trans (hb5q'.mono hb4q.size)
            have hk5 := blk_alloc (blk_below hk3 hb5q' (blk_lt hk3)) (.cells #[.int .u64 0, .int .u32 0, .int .u32 0, .int .u32 0] 30)
            have hb6q := hb5q.alloc hb5q.size (.cells #[.int .u64 0, .int .u32 0, .int .u32 0, .int .u32 0] 30)
            obtain ⟨⟨k0, k1, k2, k3⟩, _⟩ := cell4 hk5
            clear hb4q hb5q hb5q' hk3 cvA
            go_wp2_with fail
            refine (same_yes _ 0 0 0 0).mono ?_
            rintro r w7q ⟨rfl, hb7q'⟩
            have hbz := hb6q.trans (hb7q'.mono hb6q.size)
            clear hb6q hb7q'
            rcases hX with rfl | rfl
            · go_wp2_with fail
              go_ret
              exact ⟨rfl, hbz⟩
            · go_wp2_with fail
              go_ret
              exact ⟨rfl, hbz⟩
        · have d32 : decide ((32 : Int) ≤ (n0 : Int)) = false := decide_eq_false (by omega)
          have d32n : decide (32 ≤ n0) = false := decide_eq_false h32
          exact absurd h32 (by omega)


set_option maxRecDepth 20000 in
set_option maxHeartbeats 4000000 in
theorem gets_no (w : World) (t0 e0 m0 f0 : Nat) (ht0 : t0 < 18446744073709551616) (he0 : e0 < 4294967296) (hm0 : m0 < 4294967296) (hf0 : f0 < 4294967296) (S : Int) (A1 : Option Addr) (n1 c1 : Nat) (zs : List Int) (hz : Nums .u16 w w.heap.size A1 n1 c1 zs) (A2 : Option Addr) (n2 c2 : Nat) (l2 : List UInt8) (hx2 : Sl w w.heap.size A2 n2 c2 l2) (sum : Bool) (q0 : n1 ≤ 20) (q1 : n1 ≤ n2) (q2 : n2 ≤ 5000) (hno : ¬ (MRight t0 e0 m0 f0 ∧ 512 ≤ S ∧ S ≤ 4096)) :
    Calls Try.prog 4 #[.agg #[.int .u64 (t0 : Int), .int .u32 (e0 : Int), .int .u32 (m0 : Int), .int .u32 (f0 : Int)], .int .i64 S, .slice A1 n1 c1, .slice A2 n2 c2, .bool sum] w fun r w' => r = .returned (.bool true) ∧ Below w.heap.size w w' := by
  have d2 := (dec_i 20 n1).2 (by omega)
  have d3 := (dec_n n2 n1).2 (by omega)
  have d4 := (dec_i 5000 n2).2 (by omega)
  have HNO := Lib.hid hno
  clear hno
  have hx0 := heap_alloc_new w (.cells #[.int .u64 (t0 : Int), .int .u32 (e0 : Int), .int .u32 (m0 : Int), .int .u32 (f0 : Int)] 25)
  have hb0 : Below w.heap.size w (w.alloc (.cells #[.int .u64 (t0 : Int), .int .u32 (e0 : Int), .int .u32 (m0 : Int), .int .u32 (f0 : Int)] 25)) := (Below.refl _ _).alloc (Nat.le_refl _) _
  have HX0 := Lib.hid hx0
  clear hx0
  go_enter Try.func4, Try.ntmps4
  go_wp2_with fail
  refine (awake7 _).mono ?_
  rintro r w1 ⟨rfl, hb1'⟩
  have hb1 := hb0.trans (hb1'.mono hb0.size)
  have hx0 := blk_below HX0.out hb1' (blk_lt HX0.out)
  obtain ⟨⟨x00, x01, x02, x03⟩, _⟩ := cell4 hx0
  clear hb0 hb1' HX0
  go_wp2_with fail
  refine (of_any _ t0 e0 m0 f0).mono ?_
  rintro r w2 ⟨rfl, hb2'⟩
  have hb2 := hb1.trans (hb2'.mono hb1.size)
  have hx0 := blk_below hx0 hb2' (blk_lt hx0)
  have hx0 := blk_alloc (blk_alloc hx0 (.cells #[.int .u64 (t0 : Int), .int .u32 (e0 : Int), .int .u32 (m0 : Int), .int .u32 (f0 : Int)] 29)) (.cells #[.int .u64 (t0 : Int), .int .u32 (e0 : Int), .int .u32 (m0 : Int), .int .u32 (f0 : Int)] 30)
  have hg0 := blk_alloc (heap_alloc_new w2 (.cells #[.int .u64 (t0 : Int), .int .u32 (e0 : Int), .int .u32 (m0 : Int), .int .u32 (f0 : Int)] 29)) (.cells #[.int .u64 (t0 : Int), .int .u32 (e0 : Int), .int .u32 (m0 : Int), .int .u32 (f0 : Int)] 30)
  have hr0 := heap_alloc_new (w2.alloc (.cells #[.int .u64 (t0 : Int), .int .u32 (e0 : Int), .int .u32 (m0 : Int), .int .u32 (f0 : Int)] 29)) (.cells #[.int .u64 (t0 : Int), .int .u32 (e0 : Int), .int .u32 (m0 : Int), .int .u32 (f0 : Int)] 30)
  rw [World.size_alloc] at hr0
  have hgw0 : w.heap.size ≤ w2.heap.size := hb2.size
  have hb3 := (hb2.alloc hb2.size (.cells #[.int .u64 (t0 : Int), .int .u32 (e0 : Int), .int .u32 (m0 : Int), .int .u32 (f0 : Int)] 29)).alloc (by have := hb2.size; simp; omega) (.cells #[.int .u64 (t0 : Int), .int .u32 (e0 : Int), .int .u32 (m0 : Int), .int .u32 (f0 : Int)] 30)
  clear hb1 hb2' x00 x01 x02 x03 hb2
  go_wp2_with fail
  generalize (w2.alloc (.cells #[.int .u64 (t0 : Int), .int .u32 (e0 : Int), .int .u32 (m0 : Int), .int .u32 (f0 : Int)] 29)).alloc (.cells #[.int .u64 (t0 : Int), .int .u32 (e0 : Int), .int .u32 (m0 : Int), .int .u32 (f0 : Int)] 30) = w3 at *
  generalize w2.heap.size = g0 at *
  refine (mput_no _ t0 e0 m0 f0 S ht0 he0 hm0 hf0 HNO.out).mono ?_
  rintro r w6 ⟨rfl, hb6'⟩
  have hb6 := hb3.trans (hb6'.mono hb3.size)
  have hcv2 := string_of_sl (P := Try.prog) Try.underlying33 Try.underlying5 Try.underlying9 (hx2.belowX hb6)
  obtain ⟨c0, w7, hcvx, hcap, hmb0, hb7'⟩ := bytes_of_st (P := Try.prog) w6 9 33 l2 n2 hx2.len Try.underlying9 Try.underlying33 Try.underlying5
  have hb7 := hb6.trans (hb7'.mono hb6.size)
  obtain ⟨g, hgg⟩ : ∃ g, w6.heap.size = g := ⟨_, rfl⟩
  rw [hgg] at hmb0 hcvx
  have hgw : w.heap.size ≤ g := by rw [← hgg]; exact hb6.size
  clear hgg
  obtain ⟨b0, hb0, hlb⟩ : ∃ b0 : List UInt8, MB w7 g b0 ∧ b0.length = n2 := ⟨l2, hmb0, hx2.len⟩
  have hl01 : n2 ≤ b0.length := by omega
  have hl02 : b0.length ≤ n2 := by omega
  clear hlb hmb0 hb7' hb3 hb6' hb6 hg0 hr0
  go_wp2_with fail
  go_loopw [16] (fun i wr => ∃ (k : Nat) (bl : List UInt8), k ≤ n1 ∧ i = .int .i64 k ∧ MB wr g bl ∧ n2 ≤ bl.length ∧ bl.length ≤ n2 ∧ Below w.heap.size w wr) (fun i _ => n1 - (intOf i).toNat)
  case atStart => exact ⟨0, b0, Nat.zero_le _, rfl, hb0, hl01, hl02, hb7⟩
  case round =>
    obtain ⟨k, bl, hk, rfl, hmb, hl1, hl2, hbw⟩ := hrel
    by_cases hlt : k < n1
    · by_cases hpos : 0 < n2
      · have hposb : decide (0 < n2) = true := decide_eq_true hpos
        have hkn2 : k < n2 := by omega
        have hnz : ¬ n2 = 0 := by omega
        obtain ⟨z, adz, rfl, hadz, hzc, hz0, hz1⟩ := (hz.below hbw).at_ hlt
        obtain ⟨adx, xb, rfl, hadx, _, hxc⟩ := (hx2.below hbw).get (show k < n2 by omega)
        obtain ⟨j, hj, hjn⟩ := spoil_idx z n2 hz0 hpos
        have hzw : IntKind.i64.wrap z = z := IntWalk.i64_in _ (by omega)
        obtain ⟨hbc, hbf⟩ := hmb.2 j bl[j] (List.getElem?_eq_getElem (by omega))
        have hxor := xor_byte' bl[j] xb
        have hj0 : (0 : Int) ≤ (j : Int) := by omega
        have hj1 : (j : Int) < (n2 : Int) := by omega
        have hset := hmb.set_ j (bl[j] ^^^ xb) (by omega)
        have hbn := hbw.setCell (p := ⟨g, j, none⟩) hgw (.int .u8 ((bl[j] ^^^ xb).toNat : Int))
        go_wp2
        refine wp_still_tail 17 (by kernel_rfl) (by kernel_rfl) ?_
        simp only [List.take_succ_cons, List.take_zero, List.drop_succ_cons, List.drop_zero]
        repeat still_step
        refine wpStill_nil ?_
        go_wp2
        go_roundw
        case rel => exact ⟨k + 1, bl.set j (bl[j] ^^^ xb), by omega, by go_num, hset, by simpa using hl1, by simpa using hl2, hbn.drew⟩
        case measure => simp [intOf]; omega
      · exact absurd (show 0 < n2 by omega) hpos
    · have sB0 : Sl wr wr.heap.size (some ⟨g, 0, none⟩) n2 c0 bl := hmb.sl (by omega) hcap
      clear hmb hl1 hl2 hk
      cases sum with
      | false =>
        have hbq := hbw
        have sB := sB0
        clear hbw sB0
        have hlenq := sB.len
        have HLQ := Lib.hid hlenq
        have zA : bl.length ≤ 140737488355328 := by omega
        rcases mGet_cases bl with ⟨t, e, m, f, hg, hR, ht, he, hm, hf⟩ | ⟨X, hg, hX⟩
        · have HG := Lib.hid hg
          have h5a := (mGet_some hg).2.2.2.2.1
          have h5b := (mGet_some hg).2.2.2.2.2.1
          have h6a : 512 ≤ n2 := by omega
          have h6b : n2 ≤ 4096 := by omega
          have HPG := Lib.hid (mPut_of_get hg)
          clear hg hlenq
          go_wp2_with fail
          refine (mget_is _ _ _ _ _ bl t e m f sB (by omega) HG).mono ?_
          rintro r w3q ⟨rfl, hb3q'⟩
          have hb3q := hbq.trans (hb3q'.mono hbq.size)
          have sC := (sB.below hb3q').lt'.below ((Below.refl _ _).alloc (Nat.le_refl _) (.cells #[.int .u64 (t : Int), .int .u32 (e : Int), .int .u32 (m : Int), .int .u32 (f : Int)] 29))
          have hk3 := heap_alloc_new w3q (.cells #[.int .u64 (t : Int), .int .u32 (e : Int), .int .u32 (m : Int), .int .u32 (f : Int)] 29)
          have hb4q := hb3q.alloc hb3q.size (.cells #[.int .u64 (t : Int), .int .u32 (e : Int), .int .u32 (m : Int), .int .u32 (f : Int)] 29)
          have cvA := string_of_sl (P := Try.prog) Try.underlying33 Try.underlying5 Try.underlying9 sC
          have HSC := Lib.hid sC
          clear hb3q hb3q' sB hbq sC
          go_wp2_with fail
          generalize w3q.alloc (.cells #[.int .u64 (t : Int), .int .u32 (e : Int), .int .u32 (m : Int), .int .u32 (f : Int)] 29) = w4q at *
          have sC := HSC.out.lt'
          generalize w3q.heap.size = gk at *
          refine (rget_is _ bl t e m f zA HG).mono ?_
          rintro r w5q ⟨rfl, hb5q'⟩
          have hb5q := hb4q.trans (hb5q'.mono hb4q.size)
          have sD := (sC.below hb5q').lt'.below ((Below.refl _ _).alloc (Nat.le_refl _) (.cells #[.int .u64 (t : Int), .int .u32 (e : Int), .int .u32 (m : Int), .int .u32 (f : Int)] 30))
          have hk5 := blk_alloc (blk_below hk3 hb5q' (blk_lt hk3)) (.cells #[.int .u64 (t : Int), .int .u32 (e : Int), .int .u32 (m : Int), .int .u32 (f : Int)] 30)
          have hb6q := hb5q.alloc hb5q.size (.cells #[.int .u64 (t : Int), .int .u32 (e : Int), .int .u32 (m : Int), .int .u32 (f : Int)] 30)
          obtain ⟨⟨k0, k1, k2, k3⟩, _⟩ := cell4 hk5
          have HSD := Lib.hid sD
          clear hb4q hb5q hb5q' hk3 cvA sC sD
          go_wp2_with fail
          generalize w5q.alloc (.cells #[.int .u64 (t : Int), .int .u32 (e : Int), .int .u32 (m : Int), .int .u32 (f : Int)] 30) = w6q at *
          have sD := HSD.out.lt'
          clear k0 k1 k2 k3
          refine (same_yes _ t e m f).mono ?_
          rintro r w7q ⟨rfl, hb7q'⟩
          have hb7q := hb6q.trans (hb7q'.mono hb6q.size)
          have sE := (sD.below hb7q').lt'
          have HSE := Lib.hid sE
          have hk7 := blk_below hk5 hb7q' (blk_lt hk5)
          obtain ⟨⟨k0, k1, k2, k3⟩, _⟩ := cell4 hk7
          clear hb6q hb7q' hk5 sD sE
          go_wp2_with fail
          refine (mput_ok _ t e m f n2 ht he hm hf hR h6a h6b).mono ?_
          rintro r w8q ⟨p8, rfl, _, hP8, hb8q'⟩
          have hbz := hb7q.trans (hb8q'.mono hb7q.size)
          have hpl := HPG.out
          rw [HLQ.out] at hpl
          rw [hpl] at hP8
          have sF := HSE.out.below hb8q'
          have cv1 := string_of_sl (P := Try.prog) Try.underlying33 Try.underlying5 Try.underlying9 sF
          have cv2 := string_of_sl (P := Try.prog) Try.underlying33 Try.underlying5 Try.underlying9 (hP8.slN HLQ.out (by omega))
          clear hpl hb7q hb8q' sF hP8 hk7 k0 k1 k2 k3
          go_wp2_with fail
          go_ret
          exact ⟨rfl, hbz⟩
        · have HG := Lib.hid hg
          have hX0 : (X == 0) = false := by rcases hX with rfl | rfl <;> rfl
          clear hg hlenq
          go_wp2_with fail
          refine (mget_none _ _ _ _ _ bl X sB (by omega) HG).mono ?_
          rintro r w3q ⟨rfl, hb3q'⟩
          have hb3q := hbq.trans (hb3q'.mono hbq.size)
          have sC := (sB.below hb3q').lt'.below ((Below.refl _ _).alloc (Nat.le_refl _) (.cells #[.int .u64 0, .int .u32 0, .int .u32 0, .int .u32 0] 29))
          have hk3 := heap_alloc_new w3q (.cells #[.int .u64 0, .int .u32 0, .int .u32 0, .int .u32 0] 29)
          have hb4q := hb3q.alloc hb3q.size (.cells #[.int .u64 0, .int .u32 0, .int .u32 0, .int .u32 0] 29)
          have cvA := string_of_sl (P := Try.prog) Try.underlying33 Try.underlying5 Try.underlying9 sC
          have HSC := Lib.hid sC
          clear hb3q hb3q' sB hbq sC
          go_wp2_with fail
          generalize w3q.alloc (.cells #[.int .u64 0, .int .u32 0, .int .u32 0, .int .u32 0] 29) = w4q at *
          generalize w3q.heap.size = gk at *
          refine (rget_none _ bl X zA HG).mono ?_
          rintro r w5q ⟨rfl, hb5q'⟩
          have hb5q := hb4q.trans (hb5q'.mono hb4q.size)
          have hk5 := blk_alloc (blk_below hk3 hb5q' (blk_lt hk3)) (.cells #[.int .u64 0, .int .u32 0, .int .u32 0, .int .u32 0] 30)
          have hb6q := hb5q.alloc hb5q.size (.cells #[.int .u64 0, .int .u32 0, .int .u32 0, .int .u32 0] 30)
          obtain ⟨⟨k0, k1, k2, k3⟩, _⟩ := cell4 hk5
          clear hb4q hb5q hb5q' hk3 cvA
          go_wp2_with fail
          refine (same_yes _ 0 0 0 0).mono ?_
          rintro r w7q ⟨rfl, hb7q'⟩
          have hbz := hb6q.trans (hb7q'.mono hb6q.size)
          clear hb6q hb7q'
          rcases hX with rfl | rfl
          · go_wp2_with fail
            go_ret
            exact ⟨rfl, hbz⟩
          · go_wp2_with fail
            go_ret
            exact ⟨rfl, hbz⟩
      | true =>
        by_cases h32 : 32 ≤ n2
        · have d32 : decide ((32 : Int) ≤ (n2 : Int)) = true := decide_eq_true (by omega)
          have d32n : decide (32 ≤ n2) = true := decide_eq_true h32
          go_wp2_with fail
          refine (refit_any _ _ _ _ _ bl sB0 h32 (by omega)).mono ?_
          rintro r wq ⟨AA, CC, LL, rfl, sB, hbq'⟩
          have hbq := hbw.trans (hbq'.mono hbw.size)
          clear hbw hbq' sB0 d32 d32n h32
          have hlenq := sB.len
          have HLQ := Lib.hid hlenq
          have zA : LL.length ≤ 140737488355328 := by omega
          rcases mGet_cases LL with ⟨t, e, m, f, hg, hR, ht, he, hm, hf⟩ | ⟨X, hg, hX⟩
          · have HG := Lib.hid hg
            have h5a := (mGet_some hg).2.2.2.2.1
            have h5b := (mGet_some hg).2.2.2.2.2.1
            have h6a : 512 ≤ n2 := by omega
            have h6b : n2 ≤ 4096 := by omega
            have HPG := Lib.hid (mPut_of_get hg)
            clear hg hlenq
            go_wp2_with fail
            refine (mget_is _ _ _ _ _ LL t e m f sB (by omega) HG).mono ?_
            rintro r w3q ⟨rfl, hb3q'⟩
            have hb3q := hbq.trans (hb3q'.mono hbq.size)
            have sC := (sB.below hb3q').lt'.below ((Below.refl _ _).alloc (Nat.le_refl _) (.cells #[.int .u64 (t : Int), .int .u32 (e : Int), .int .u32 (m : Int), .int .u32 (f : Int)] 29))
            have hk3 := heap_alloc_new w3q (.cells #[.int .u64 (t : Int), .int .u32 (e : Int), .int .u32 (m : Int), .int .u32 (f : Int)] 29)
            have hb4q := hb3q.alloc hb3q.size (.cells #[.int .u64 (t : Int), .int .u32 (e : Int), .int .u32 (m : Int), .int .u32 (f : Int)] 29)
            have cvA := string_of_sl (P := Try.prog) Try.underlying33 Try.underlying5 Try.underlying9 sC
            have HSC := Lib.hid sC
            clear hb3q hb3q' sB hbq sC
            go_wp2_with fail
            generalize w3q.alloc (.cells #[.int .u64 (t : Int), .int .u32 (e : Int), .int .u32 (m : Int), .int .u32 (f : Int)] 29) = w4q at *
            have sC := HSC.out.lt'
            generalize w3q.heap.size = gk at *
            refine (rget_is _ LL t e m f zA HG).mono ?_
            rintro r w5q ⟨rfl, hb5q'⟩
            have hb5q := hb4q.trans (hb5q'.mono hb4q.size)
            have sD := (sC.below hb5q').lt'.below ((Below.refl _ _).alloc (Nat.le_refl _) (.cells #[.int .u64 (t : Int), .int .u32 (e : Int), .int .u32 (m : Int), .int .u32 (f : Int)] 30))
            have hk5 := blk_alloc (blk_below hk3 hb5q' (blk_lt hk3)) (.cells #[.int .u64 (t : Int), .int .u32 (e : Int), .int .u32 (m : Int), .int .u32 (f : Int)] 30)
            have hb6q := hb5q.alloc hb5q.size (.cells #[.int .u64 (t : Int), .int .u32 (e : Int), .int .u32 (m : Int), .int .u32 (f : Int)] 30)
            obtain ⟨⟨k0, k1, k2, k3⟩, _⟩ := cell4 hk5
            have HSD := Lib.hid sD
            clear hb4q hb5q hb5q' hk3 cvA sC sD
            go_wp2_with fail
            generalize w5q.alloc (.cells #[.int .u64 (t : Int), .int .u32 (e : Int), .int .u32 (m : Int), .int .u32 (f : Int)] 30) = w6q at *
            have sD := HSD.out.lt'
            clear k0 k1 k2 k3
            refine (same_yes _ t e m f).mono ?_
            rintro r w7q ⟨rfl, hb7q'⟩
            have hb7q := hb6q.trans (hb7q'.mono hb6q.size)
            have sE := (sD.below hb7q').lt'
            have HSE := Lib.hid sE
            have hk7 := blk_below hk5 hb7q' (blk_lt hk5)
            obtain ⟨⟨k0, k1, k2, k3⟩, _⟩ := cell4 hk7
            clear hb6q hb7q' hk5 sD sE
            go_wp2_with fail
            refine (mput_ok _ t e m f n2 ht he hm hf hR h6a h6b).mono ?_
            rintro r w8q ⟨p8, rfl, _, hP8, hb8q'⟩
            have hbz := hb7q.trans (hb8q'.mono hb7q.size)
            have hpl := HPG.out
            rw [HLQ.out] at hpl
            rw [hpl] at hP8
            have sF := HSE.out.below hb8q'
            have cv1 := string_of_sl (P := Try.prog) Try.underlying33 Try.underlying5 Try.underlying9 sF
            have cv2 := string_of_sl (P := Try.prog) Try.underlying33 Try.underlying5 Try.underlying9 (hP8.slN HLQ.out (by omega))
            clear hpl hb7q hb8q' sF hP8 hk7 k0 k1 k2 k3
            go_wp2_with fail
            go_ret
            exact ⟨rfl, hbz⟩
          · have HG := Lib.hid hg
            have hX0 : (X == 0) = false := by rcases hX with rfl | rfl <;> rfl
            clear hg hlenq
            go_wp2_with fail
            refine (mget_none _ _ _ _ _ LL X sB (by omega) HG).mono ?_
            rintro r w3q ⟨rfl, hb3q'⟩
            have hb3q := hbq.trans (hb3q'.mono hbq.size)
            have sC := (sB.below hb3q').lt'.below ((Below.refl _ _).alloc (Nat.le_refl _) (.cells #[.int .u64 0, .int .u32 0, .int .u32 0, .int .u32 0] 29))
            have hk3 := heap_alloc_new w3q (.cells #[.int .u64 0, .int .u32 0, .int .u32 0, .int .u32 0] 29)
            have hb4q := hb3q.alloc hb3q.size (.cells #[.int .u64 0, .int .u32 0, .int .u32 0, .int .u32 0] 29)
            have cvA := string_of_sl (P := Try.prog) Try.underlying33 Try.underlying5 Try.underlying9 sC
            have HSC := Lib.hid sC
            clear hb3q hb3q' sB hbq sC
            go_wp2_with fail
            generalize w3q.alloc (.cells #[.int .u64 0, .int .u32 0, .int .u32 0, .int .u32 0] 29) = w4q at *
            generalize w3q.heap.size = gk at *
            refine (rget_none _ LL X zA HG).mono ?_
            rintro r w5q ⟨rfl, hb5q'⟩
            have hb5q := hb4q.trans (hb5q'.mono hb4q.size)
            have hk5 := blk_alloc (blk_below hk3 hb5q' (blk_lt hk3)) (.cells #[.int .u64 0, .int .u32 0, .int .u32 0, .int .u32 0] 30)
            have hb6q := hb5q.alloc hb5q.size (.cells #[.int .u64 0, .int .u32 0, .int .u32 0, .int .u32 0] 30)
            obtain ⟨⟨k0, k1, k2, k3⟩, _⟩ := cell4 hk5
            clear hb4q hb5q hb5q' hk3 cvA
            go_wp2_with fail
            refine (same_yes _ 0 0 0 0).mono ?_
            rintro r w7q ⟨rfl, hb7q'⟩
            have hbz := hb6q.trans (hb7q'.mono hb6q.size)
            clear hb6q hb7q'
            rcases hX with rfl | rfl
            · go_wp2_with fail
              go_ret
              exact ⟨rfl, hbz⟩
            · go_wp2_with fail
              go_ret
              exact ⟨rfl, hbz⟩
        · have d32 : decide ((32 : Int) ≤ (n2 : Int)) = false := decide_eq_false (by omega)
          have d32n : decide (32 ≤ n2) = false := decide_eq_false h32
          have hbq := hbw
          have sB := sB0
          clear hbw sB0
          have hlenq := sB.len
          have HLQ := Lib.hid hlenq
          have zA : bl.length ≤ 140737488355328 := by omega
          rcases mGet_cases bl with ⟨t, e, m, f, hg, hR, ht, he, hm, hf⟩ | ⟨X, hg, hX⟩
          · have HG := Lib.hid hg
            have h5a := (mGet_some hg).2.2.2.2.1
            have h5b := (mGet_some hg).2.2.2.2.2.1
            have h6a : 512 ≤ n2 := by omega
            have h6b : n2 ≤ 4096 := by omega
            exact absurd h6a (by omega)
          · have HG := Lib.hid hg
            have hX0 : (X == 0) = false := by rcases hX with rfl | rfl <;> rfl
            clear hg hlenq
            go_wp2_with fail
            refine (mget_none _ _ _ _ _ bl X sB (by omega) HG).mono ?_
            rintro r w3q ⟨rfl, hb3q'⟩
            have hb3q := hbq.trans (hb3q'.mono hbq.size)
            have sC := (sB.below hb3q').lt'.below ((Below.refl _ _).alloc (Nat.le_refl _) (.cells #[.int .u64 0, .int .u32 0, .int .u32 0, .int .u32 0] 29))
            have hk3 := heap_alloc_new w3q (.cells #[.int .u64 0, .int .u32 0, .int .u32 0, .int .u32 0] 29)
            have hb4q := hb3q.alloc hb3q.size (.cells #[.int .u64 0, .int .u32 0, .int .u32 0, .int .u32 0] 29)
            have cvA := string_of_sl (P := Try.prog) Try.underlying33 Try.underlying5 Try.underlying9 sC
            have HSC := Lib.hid sC
            clear hb3q hb3q' sB hbq sC
            go_wp2_with fail
            generalize w3q.alloc (.cells #[.int .u64 0, .int .u32 0, .int .u32 0, .int .u32 0] 29) = w4q at *
            generalize w3q.heap.size = gk at *
            refine (rget_none _ bl X zA HG).mono ?_
            rintro r w5q ⟨rfl, hb5q'⟩
            have hb5q := hb4q.trans (hb5q'.mono hb4q.size)
            have hk5 := blk_alloc (blk_below hk3 hb5q' (blk_lt hk3)) (.cells #[.int .u64 0, .int .u32 0, .int .u32 0, .int .u32 0] 30)
            have hb6q := hb5q.alloc hb5q.size (.cells #[.int .u64 0, .int .u32 0, .int .u32 0, .int .u32 0] 30)
            obtain ⟨⟨k0, k1, k2, k3⟩, _⟩ := cell4 hk5
            clear hb4q hb5q hb5q' hk3 cvA
            go_wp2_with fail
            refine (same_yes _ 0 0 0 0).mono ?_
            rintro r w7q ⟨rfl, hb7q'⟩
            have hbz := hb6q.trans (hb7q'.mono hb6q.size)
            clear hb6q hb7q'
            rcases hX with rfl | rfl
            · go_wp2_with fail
              go_ret
              exact ⟨rfl, hbz⟩
            · go_wp2_with fail
              go_ret
              exact ⟨rfl, hbz⟩


set_option maxRecDepth 20000 in
set_option maxHeartbeats 4000000 in
theorem metaGets_law (w : World) (t0 e0 m0 f0 : Nat) (ht0 : t0 < 18446744073709551616) (he0 : e0 < 4294967296) (hm0 : m0 < 4294967296) (hf0 : f0 < 4294967296) (S : Int) (A1 : Option Addr) (n1 c1 : Nat) (zs : List Int) (hz : Nums .u16 w w.heap.size A1 n1 c1 zs) (A2 : Option Addr) (n2 c2 : Nat) (l2 : List UInt8) (hx2 : Sl w w.heap.size A2 n2 c2 l2) (sum : Bool)  :
    Calls Try.prog 4 #[.agg #[.int .u64 (t0 : Int), .int .u32 (e0 : Int), .int .u32 (m0 : Int), .int .u32 (f0 : Int)], .int .i64 S, .slice A1 n1 c1, .slice A2 n2 c2, .bool sum] w fun r w' => r = .returned (.bool true) ∧ Below w.heap.size w w' := by
  by_cases q0 : 20 < n1
  · exact gets_e0 w t0 e0 m0 f0 ht0 he0 hm0 hf0 S A1 n1 c1 zs hz A2 n2 c2 l2 hx2 sum q0
  by_cases q1 : n2 < n1
  · exact gets_e1 w t0 e0 m0 f0 ht0 he0 hm0 hf0 S A1 n1 c1 zs hz A2 n2 c2 l2 hx2 sum (by omega) q1
  by_cases q2 : 5000 < n2
  · exact gets_e2 w t0 e0 m0 f0 ht0 he0 hm0 hf0 S A1 n1 c1 zs hz A2 n2 c2 l2 hx2 sum (by omega) (by omega) q2
  by_cases h0 : MRight t0 e0 m0 f0 ∧ 512 ≤ S ∧ S ≤ 4096
  · obtain ⟨n0, hn0⟩ := Int.eq_ofNat_of_zero_le (show 0 ≤ S by omega)
    exact gets_ok w t0 e0 m0 f0 ht0 he0 hm0 hf0 S A1 n1 c1 zs hz A2 n2 c2 l2 hx2 sum n0 hn0 (by omega) (by omega) (by omega) (by omega) (by omega) h0.1
  · exact gets_no w t0 e0 m0 f0 ht0 he0 hm0 hf0 S A1 n1 c1 zs hz A2 n2 c2 l2 hx2 sum (by omega) (by omega) (by omega) h0

end Go.Proofs.Ytpipgeboddaipaa
