/- Layer 7's statement: MetaTurns. -/
import Derived.Test.YtpipgeboddaipaaLawMetaSpoiled
namespace Go.Proofs.Ytpipgeboddaipaa
open Go.RowKit
set_option linter.unusedVariables false
set_option linter.unusedSimpArgs false

set_option maxRecDepth 20000 in
set_option maxHeartbeats 2000000 in
theorem turns_e0 (w : World) (t e : Nat) (ht : t < 18446744073709551616) (he : e < 4294967296) (S : Int) (gone : Bool) (A4 : Option Addr) (n4 c4 : Nat) (l4 : List UInt8) (h4 : Sl w w.heap.size A4 n4 c4 l4)  (q0 : S < 512) :
    Calls Try.prog 6 #[.int .u64 (t : Int), .int .u32 (e : Int), .int .i64 S, .bool gone, .slice A4 n4 c4] w fun r w' => r = .returned (.bool true) ∧ Below w.heap.size w w' := by
  have d1 : decide (S < (512 : Int)) = true := decide_eq_true (by omega)
  clear q0
  go_enter Try.func6, Try.ntmps6
  go_wp2_with fail
  refine (awake7 _).mono ?_
  rintro r w1 ⟨rfl, hb1⟩
  go_wp2_with fail
  go_ret
  exact ⟨rfl, hb1⟩

set_option maxRecDepth 20000 in
set_option maxHeartbeats 2000000 in
theorem turns_e1 (w : World) (t e : Nat) (ht : t < 18446744073709551616) (he : e < 4294967296) (S : Int) (gone : Bool) (A4 : Option Addr) (n4 c4 : Nat) (l4 : List UInt8) (h4 : Sl w w.heap.size A4 n4 c4 l4) (q0 : ¬ S < 512) (q1 : 4096 < S) :
    Calls Try.prog 6 #[.int .u64 (t : Int), .int .u32 (e : Int), .int .i64 S, .bool gone, .slice A4 n4 c4] w fun r w' => r = .returned (.bool true) ∧ Below w.heap.size w w' := by
  have d1 : decide (S < (512 : Int)) = false := decide_eq_false (by omega)
  have d2 : decide ((4096 : Int) < S) = true := decide_eq_true (by omega)
  clear q0 q1
  go_enter Try.func6, Try.ntmps6
  go_wp2_with fail
  refine (awake7 _).mono ?_
  rintro r w1 ⟨rfl, hb1⟩
  go_wp2_with fail
  go_ret
  exact ⟨rfl, hb1⟩

set_option maxRecDepth 20000 in
set_option maxHeartbeats 2000000 in
theorem turns_e2 (w : World) (t e : Nat) (ht : t < 18446744073709551616) (he : e < 4294967296) (S : Int) (gone : Bool) (A4 : Option Addr) (n4 c4 : Nat) (l4 : List UInt8) (h4 : Sl w w.heap.size A4 n4 c4 l4) (q0 : ¬ S < 512) (q1 : ¬ 4096 < S) (q2 : t < 1) :
    Calls Try.prog 6 #[.int .u64 (t : Int), .int .u32 (e : Int), .int .i64 S, .bool gone, .slice A4 n4 c4] w fun r w' => r = .returned (.bool true) ∧ Below w.heap.size w w' := by
  have d1 : decide (S < (512 : Int)) = false := decide_eq_false (by omega)
  have d2 : decide ((4096 : Int) < S) = false := decide_eq_false (by omega)
  have d3 : decide ((t : Int) < (1 : Int)) = true := decide_eq_true (by omega)
  clear q0 q1 q2
  go_enter Try.func6, Try.ntmps6
  go_wp2_with fail
  refine (awake7 _).mono ?_
  rintro r w1 ⟨rfl, hb1⟩
  go_wp2_with fail
  go_ret
  exact ⟨rfl, hb1⟩

set_option maxRecDepth 20000 in
set_option maxHeartbeats 2000000 in
theorem turns_e3 (w : World) (t e : Nat) (ht : t < 18446744073709551616) (he : e < 4294967296) (S : Int) (gone : Bool) (A4 : Option Addr) (n4 c4 : Nat) (l4 : List UInt8) (h4 : Sl w w.heap.size A4 n4 c4 l4) (q0 : ¬ S < 512) (q1 : ¬ 4096 < S) (q2 : ¬ t < 1) (q3 : t = 18446744073709551615) :
    Calls Try.prog 6 #[.int .u64 (t : Int), .int .u32 (e : Int), .int .i64 S, .bool gone, .slice A4 n4 c4] w fun r w' => r = .returned (.bool true) ∧ Below w.heap.size w w' := by
  have d1 : decide (S < (512 : Int)) = false := decide_eq_false (by omega)
  have d2 : decide ((4096 : Int) < S) = false := decide_eq_false (by omega)
  have d3 : decide ((t : Int) < (1 : Int)) = false := decide_eq_false (by omega)
  have d4 : ((t : Int) == 18446744073709551615) = true := by simp; omega
  clear q0 q1 q2 q3
  go_enter Try.func6, Try.ntmps6
  go_wp2_with fail
  refine (awake7 _).mono ?_
  rintro r w1 ⟨rfl, hb1⟩
  go_wp2_with fail
  go_ret
  exact ⟨rfl, hb1⟩

set_option maxRecDepth 20000 in
set_option maxHeartbeats 2000000 in
theorem turns_e4 (w : World) (t e : Nat) (ht : t < 18446744073709551616) (he : e < 4294967296) (S : Int) (gone : Bool) (A4 : Option Addr) (n4 c4 : Nat) (l4 : List UInt8) (h4 : Sl w w.heap.size A4 n4 c4 l4) (q0 : ¬ S < 512) (q1 : ¬ 4096 < S) (q2 : ¬ t < 1) (q3 : ¬ t = 18446744073709551615) (q4 : e < 4) :
    Calls Try.prog 6 #[.int .u64 (t : Int), .int .u32 (e : Int), .int .i64 S, .bool gone, .slice A4 n4 c4] w fun r w' => r = .returned (.bool true) ∧ Below w.heap.size w w' := by
  have d1 : decide (S < (512 : Int)) = false := decide_eq_false (by omega)
  have d2 : decide ((4096 : Int) < S) = false := decide_eq_false (by omega)
  have d3 : decide ((t : Int) < (1 : Int)) = false := decide_eq_false (by omega)
  have d4 : ((t : Int) == 18446744073709551615) = false := by simp; omega
  have d5 : decide ((e : Int) < (4 : Int)) = true := decide_eq_true (by omega)
  clear q0 q1 q2 q3 q4
  go_enter Try.func6, Try.ntmps6
  go_wp2_with fail
  refine (awake7 _).mono ?_
  rintro r w1 ⟨rfl, hb1⟩
  go_wp2_with fail
  go_ret
  exact ⟨rfl, hb1⟩

set_option maxRecDepth 20000 in
set_option maxHeartbeats 2000000 in
theorem turns_e5 (w : World) (t e : Nat) (ht : t < 18446744073709551616) (he : e < 4294967296) (S : Int) (gone : Bool) (A4 : Option Addr) (n4 c4 : Nat) (l4 : List UInt8) (h4 : Sl w w.heap.size A4 n4 c4 l4) (q0 : ¬ S < 512) (q1 : ¬ 4096 < S) (q2 : ¬ t < 1) (q3 : ¬ t = 18446744073709551615) (q4 : ¬ e < 4) (q5 : 5000 < n4) :
    Calls Try.prog 6 #[.int .u64 (t : Int), .int .u32 (e : Int), .int .i64 S, .bool gone, .slice A4 n4 c4] w fun r w' => r = .returned (.bool true) ∧ Below w.heap.size w w' := by
  have d1 : decide (S < (512 : Int)) = false := decide_eq_false (by omega)
  have d2 : decide ((4096 : Int) < S) = false := decide_eq_false (by omega)
  have d3 : decide ((t : Int) < (1 : Int)) = false := decide_eq_false (by omega)
  have d4 : ((t : Int) == 18446744073709551615) = false := by simp; omega
  have d5 : decide ((e : Int) < (4 : Int)) = false := decide_eq_false (by omega)
  have d6 : decide ((5000 : Int) < (n4 : Int)) = true := decide_eq_true (by omega)
  clear q0 q1 q2 q3 q4 q5
  go_enter Try.func6, Try.ntmps6
  go_wp2_with fail
  refine (awake7 _).mono ?_
  rintro r w1 ⟨rfl, hb1⟩
  go_wp2_with fail
  go_ret
  exact ⟨rfl, hb1⟩

theorem slot_is (w : World) (T r : Int) (h0 : 0 ≤ T) (h : T ≤ 18446744073709551615) (hr : Hid (r = T % 2)) : Calls Try.prog 16 #[.int .u64 T] w fun e w' => e = .returned (.int .i64 r) ∧ w = w' := by
  obtain ⟨t, rfl⟩ := Int.eq_ofNat_of_zero_le h0
  rw [hr.out]
  refine (slot_any w t (by omega)).mono ?_
  rintro e w' ⟨rfl, rfl⟩
  exact ⟨ret_int (by omega), rfl⟩
theorem mStep_other (i : Nat) (l : List UInt8) (o : M4) (h : l[0]? ≠ some 82) : mStep i l o = o := by
  rcases mGet_cases l with ⟨t, e, m, f, hg, _⟩ | ⟨x, hg, _⟩
  · exfalso
    have h1 := (mGet_some hg).1
    have h2 := congrArg (fun x => x[0]?) h1
    simp [List.getElem?_take] at h2
    exact h h2
  · unfold mStep
    rw [hg]
set_option maxRecDepth 20000 in
set_option maxHeartbeats 2000000 in
theorem turns_r (w : World) (t e : Nat) (ht : t < 18446744073709551616) (he : e < 4294967296) (S : Int) (gone : Bool) (A4 : Option Addr) (n4 c4 : Nat) (l4 : List UInt8) (h4 : Sl w w.heap.size A4 n4 c4 l4) (q1 : 512 ≤ S) (q2 : S ≤ 4096) (q3 : 1 ≤ t) (q4 : t < 18446744073709551615) (q5 : 4 ≤ e) (q6 : n4 ≤ 5000) (q7 : l4[0]? = some 82) :
    Calls Try.prog 6 #[.int .u64 (t : Int), .int .u32 (e : Int), .int .i64 S, .bool gone, .slice A4 n4 c4] w fun r w' => r = .returned (.bool true) ∧ Below w.heap.size w w' := by
  have d1 : decide (S < (512 : Int)) = false := decide_eq_false (by omega)
  have d2 : decide ((4096 : Int) < S) = false := decide_eq_false (by omega)
  have d3 : decide ((t : Int) < (1 : Int)) = false := decide_eq_false (by omega)
  have d4 : ((t : Int) == 18446744073709551615) = false := by simp; omega
  have d5 : decide ((e : Int) < (4 : Int)) = false := decide_eq_false (by omega)
  have d6 : decide ((5000 : Int) < (n4 : Int)) = false := decide_eq_false (by omega)
  have hn4 : 0 < n4 := by
    have := (List.getElem?_eq_some_iff.1 q7).1
    have := h4.len
    omega
  have d7 : decide ((0 : Int) < (n4 : Int)) = true := decide_eq_true (by omega)
  have d7n : decide (0 < n4) = true := decide_eq_true (by omega)
  obtain ⟨ad, b, rfl, hadb, hb, hc⟩ := h4.get (k := 0) hn4
  obtain rfl : b = 82 := Option.some.inj (hb.symm.trans q7)
  rw [Addr.add_zero'] at hc
  have HB := Lib.hid hb
  clear q7 hb
  go_enter Try.func6, Try.ntmps6
  go_wp2_with fail
  refine (awake7 _).mono ?_
  rintro r w1 ⟨rfl, hb1⟩
  have hc1 := (hb1.cell (p := ad) hadb).trans hc
  go_wp2_with fail
  go_ret
  exact ⟨rfl, hb1⟩

set_option maxRecDepth 20000 in
set_option maxHeartbeats 2000000 in
theorem turns_m000 (w : World) (t e : Nat) (ht : t < 18446744073709551616) (he : e < 4294967296) (S : Int) (gone : Bool) (A4 : Option Addr) (n4 c4 : Nat) (l4 : List UInt8) (h4 : Sl w w.heap.size A4 n4 c4 l4) (size : Nat) (hS : S = (size : Int)) (h1 : 512 ≤ size) (h2 : size ≤ 4096) (q3 : 1 ≤ t) (q4 : t < 18446744073709551615) (q5 : 4 ≤ e) (q6 : n4 ≤ 5000) (hz : 0 < n4) (q7 : Hid (l4[0]? ≠ some 82)) (hg : gone = false) (ho : t % 2 = 0) :
    Calls Try.prog 6 #[.int .u64 (t : Int), .int .u32 (e : Int), .int .i64 S, .bool gone, .slice A4 n4 c4] w fun r w' => r = .returned (.bool true) ∧ Below w.heap.size w w' := by
  subst hS hg
  have d1 : decide ((size : Int) < (512 : Int)) = false := decide_eq_false (by omega)
  have d2 : decide ((4096 : Int) < (size : Int)) = false := decide_eq_false (by omega)
  have d3 : decide ((t : Int) < (1 : Int)) = false := decide_eq_false (by omega)
  have d4 : ((t : Int) == 18446744073709551615) = false := by simp; omega
  have d5 : decide ((e : Int) < (4 : Int)) = false := decide_eq_false (by omega)
  have d6 : decide ((5000 : Int) < (n4 : Int)) = false := decide_eq_false (by omega)
  have d7 : decide ((0 : Int) < (n4 : Int)) = true := decide_eq_true (by omega)
  have d7n : decide (0 < n4) = true := decide_eq_true (by omega)
  obtain ⟨ad, b, hA, hadb, hb, hc⟩ := h4.get (k := 0) (by omega)
  subst hA
  rw [Addr.add_zero'] at hc
  have hb82 : ¬ ((b.toNat : Int) = 82) := fun h => q7.out (by rw [hb]; congr 1; exact UInt8.toNat_inj.1 (by simpa using (by omega : b.toNat = 82)))
  have d8 : ((b.toNat : Int) == 82) = false := by simpa using hb82
  clear hb hb82
  have hRa : MRight t e 2 0 := ⟨by unfold badPage; omega, by unfold badPage; omega, q3, by omega⟩
  have hRb : MRight (t + 1) e 3 0 := ⟨by unfold badPage; omega, by unfold badPage; omega, by omega, by omega⟩
  have CH1 := Lib.hid (show mChosen (mPut t e 2 0 size) (mPut (t + 1) e 3 0 size) = (t + 1, e, 3, 0) from by
    rw [chosen_right t e 2 0 (t + 1) e 3 0 size (by omega) he (by omega) (by omega) (by omega) he (by omega) (by omega) hRa hRb h1 h2 (by omega) (by omega)]
    exact if_pos (by omega))
  have TP := Lib.hid (show ¬ (t + 1) = 0 by omega)
  have L0 := Lib.hid (mPut_length t e 2 0 size (by omega))
  have L1 := Lib.hid (mPut_length (t + 1) e 3 0 size (by omega))
  have hp1 := fun w : World => mput_ok w t e 2 0 size (by omega) he (by omega) (by omega) hRa h1 h2
  have hp2 := fun w : World => mput_ok w (t + 1) e 3 0 size (by omega) he (by omega) (by omega) hRb h1 h2
  have ecast : ((t + 1 : Nat) : Int) = (t : Int) + 1 := by omega
  simp only [ecast, show ((2 : Nat) : Int) = 2 from rfl, show ((3 : Nat) : Int) = 3 from rfl, show ((0 : Nat) : Int) = 0 from rfl] at hp1 hp2
  have HP1 := Lib.hid hp1
  have HP2 := Lib.hid hp2
  have s1 : Hid ((0 : Int) = (t : Int) % 2) := Lib.hid (by omega)
  have s2 : Hid ((1 : Int) = ((t : Int) + 1) % 2) := Lib.hid (by omega)
  have EC := Lib.hid ecast
  have hw1 : IntKind.u64.wrap ((t : Int) + 1) = (t : Int) + 1 := IntWalk.u64_in _ (by omega)
  have hpar : (((t : Int) % 2) == 1) = false := by simp; omega
  clear hp1 hp2 ecast ho 
  go_enter Try.func6, Try.ntmps6
  go_wp2_with fail
  refine (awake7 _).mono ?_
  rintro r w1 ⟨rfl, hb1⟩
  have hc1 := (hb1.cell (p := ad) hadb).trans hc
  go_wp2_with fail
  refine (HP1.out _).mono ?_
  rintro r w2 ⟨p0, rfl, hp0, hP0, hb2'⟩
  have hb2 := hb1.trans (hb2'.mono hb1.size)
  clear hb1 hb2' hc1
  go_wp2_with fail
  refine (HP2.out _).mono ?_
  rintro r w3 ⟨p1, rfl, hp1, hP1, hb3'⟩
  have hb3 := hb2.trans (hb3'.mono hb2.size)
  have hP0 := hP0.below hb3' hP0.lt
  have h4w := (h4.below hb3).lt'
  clear hb2 hb3'
  go_wp2_with fail
  refine (mchoose_is _ _ _ _ _ _ _ _ _ (t + 1) e 3 0 (hP0.slN L0.out (by omega)) (hP1.slN L1.out (by omega)) (by omega) (by omega) CH1 TP).mono ?_
  rintro r w4 ⟨rfl, hb4'⟩
  have hbz := (hb3.trans (hb4'.mono hb3.size)).alloc (by have := hb4'.size; have := hb3.size; omega) (.cells #[.int .u64 ((t : Int) + 1 : Int), .int .u32 (e : Int), .int .u32 3, .int .u32 0] 29)
  clear hb3 hb4' hP0 hP1 h4w h4 hc
  rw [EC.out]
  go_wp2_with (first | (go_at_call 16; refine (slot_is _ (t : Int) 0 (by omega) (by omega) s1).mono ?_; rintro r w' ⟨rfl, rfl⟩) | (go_at_call 16; refine (slot_is _ ((t : Int) + 1) 1 (by omega) (by omega) s2).mono ?_; rintro r w' ⟨rfl, rfl⟩))
  go_ret
  exact ⟨rfl, hbz⟩

set_option maxRecDepth 20000 in
set_option maxHeartbeats 2000000 in
theorem turns_m001 (w : World) (t e : Nat) (ht : t < 18446744073709551616) (he : e < 4294967296) (S : Int) (gone : Bool) (A4 : Option Addr) (n4 c4 : Nat) (l4 : List UInt8) (h4 : Sl w w.heap.size A4 n4 c4 l4) (size : Nat) (hS : S = (size : Int)) (h1 : 512 ≤ size) (h2 : size ≤ 4096) (q3 : 1 ≤ t) (q4 : t < 18446744073709551615) (q5 : 4 ≤ e) (q6 : n4 ≤ 5000) (hz : 0 < n4) (q7 : Hid (l4[0]? ≠ some 82)) (hg : gone = false) (ho : t % 2 = 1) :
    Calls Try.prog 6 #[.int .u64 (t : Int), .int .u32 (e : Int), .int .i64 S, .bool gone, .slice A4 n4 c4] w fun r w' => r = .returned (.bool true) ∧ Below w.heap.size w w' := by
  subst hS hg
  have d1 : decide ((size : Int) < (512 : Int)) = false := decide_eq_false (by omega)
  have d2 : decide ((4096 : Int) < (size : Int)) = false := decide_eq_false (by omega)
  have d3 : decide ((t : Int) < (1 : Int)) = false := decide_eq_false (by omega)
  have d4 : ((t : Int) == 18446744073709551615) = false := by simp; omega
  have d5 : decide ((e : Int) < (4 : Int)) = false := decide_eq_false (by omega)
  have d6 : decide ((5000 : Int) < (n4 : Int)) = false := decide_eq_false (by omega)
  have d7 : decide ((0 : Int) < (n4 : Int)) = true := decide_eq_true (by omega)
  have d7n : decide (0 < n4) = true := decide_eq_true (by omega)
  obtain ⟨ad, b, hA, hadb, hb, hc⟩ := h4.get (k := 0) (by omega)
  subst hA
  rw [Addr.add_zero'] at hc
  have hb82 : ¬ ((b.toNat : Int) = 82) := fun h => q7.out (by rw [hb]; congr 1; exact UInt8.toNat_inj.1 (by simpa using (by omega : b.toNat = 82)))
  have d8 : ((b.toNat : Int) == 82) = false := by simpa using hb82
  clear hb hb82
  have hRa : MRight t e 2 0 := ⟨by unfold badPage; omega, by unfold badPage; omega, q3, by omega⟩
  have hRb : MRight (t + 1) e 3 0 := ⟨by unfold badPage; omega, by unfold badPage; omega, by omega, by omega⟩
  have CH1 := Lib.hid (show mChosen (mPut t e 2 0 size) (mPut (t + 1) e 3 0 size) = (0, 0, 0, 0) from chosen_wrong (t + 1) e 3 0 t e 2 0 size (by omega) he (by omega) (by omega) (by omega) he (by omega) (by omega) hRb hRa h1 h2 (by omega) (by omega))
  have CH2 := Lib.hid (show mChosen (mPut (t + 1) e 3 0 size) (mPut t e 2 0 size) = (t + 1, e, 3, 0) from by
    rw [chosen_right (t + 1) e 3 0 t e 2 0 size (by omega) he (by omega) (by omega) (by omega) he (by omega) (by omega) hRb hRa h1 h2 (by omega) (by omega)]
    exact if_neg (by omega))
  have TP := Lib.hid (show ¬ (t + 1) = 0 by omega)
  have L0 := Lib.hid (mPut_length t e 2 0 size (by omega))
  have L1 := Lib.hid (mPut_length (t + 1) e 3 0 size (by omega))
  have hp1 := fun w : World => mput_ok w t e 2 0 size (by omega) he (by omega) (by omega) hRa h1 h2
  have hp2 := fun w : World => mput_ok w (t + 1) e 3 0 size (by omega) he (by omega) (by omega) hRb h1 h2
  have ecast : ((t + 1 : Nat) : Int) = (t : Int) + 1 := by omega
  simp only [ecast, show ((2 : Nat) : Int) = 2 from rfl, show ((3 : Nat) : Int) = 3 from rfl, show ((0 : Nat) : Int) = 0 from rfl] at hp1 hp2
  have HP1 := Lib.hid hp1
  have HP2 := Lib.hid hp2
  have s1 : Hid ((1 : Int) = (t : Int) % 2) := Lib.hid (by omega)
  have s2 : Hid ((0 : Int) = ((t : Int) + 1) % 2) := Lib.hid (by omega)
  have EC := Lib.hid ecast
  have hw1 : IntKind.u64.wrap ((t : Int) + 1) = (t : Int) + 1 := IntWalk.u64_in _ (by omega)
  have hpar : (((t : Int) % 2) == 1) = true := by simp; omega
  clear hp1 hp2 ecast ho 
  go_enter Try.func6, Try.ntmps6
  go_wp2_with fail
  refine (awake7 _).mono ?_
  rintro r w1 ⟨rfl, hb1⟩
  have hc1 := (hb1.cell (p := ad) hadb).trans hc
  go_wp2_with fail
  refine (HP1.out _).mono ?_
  rintro r w2 ⟨p0, rfl, hp0, hP0, hb2'⟩
  have hb2 := hb1.trans (hb2'.mono hb1.size)
  clear hb1 hb2' hc1
  go_wp2_with fail
  refine (HP2.out _).mono ?_
  rintro r w3 ⟨p1, rfl, hp1, hP1, hb3'⟩
  have hb3 := hb2.trans (hb3'.mono hb2.size)
  have hP0 := hP0.below hb3' hP0.lt
  have h4w := (h4.below hb3).lt'
  clear hb2 hb3'
  go_wp2_with fail
  refine (mchoose_none _ _ _ _ _ _ _ _ _ (hP0.slN L0.out (by omega)) (hP1.slN L1.out (by omega)) (by omega) (by omega) CH1).mono ?_
  rintro r w4 ⟨rfl, hb4'⟩
  have hb4 := hb3.trans (hb4'.mono hb3.size)
  have hP0 : RowB _ _ _ := blk_alloc (hP0.below hb4' hP0.lt) (.cells #[.int .u64 0, .int .u32 0, .int .u32 0, .int .u32 0] 29)
  have hP1 : RowB _ _ _ := blk_alloc (hP1.below hb4' hP1.lt) (.cells #[.int .u64 0, .int .u32 0, .int .u32 0, .int .u32 0] 29)
  have hk := heap_alloc_new w4 (.cells #[.int .u64 0, .int .u32 0, .int .u32 0, .int .u32 0] 29)
  have hb5 := hb4.alloc hb4.size (.cells #[.int .u64 0, .int .u32 0, .int .u32 0, .int .u32 0] 29)
  have hkw : w.heap.size ≤ w4.heap.size := hb4.size
  have h4w := (h4.below hb5).lt'
  clear hb3 hb4' hb4
  go_wp2_with fail
  generalize w4.alloc (.cells #[.int .u64 0, .int .u32 0, .int .u32 0, .int .u32 0] 29) = w5 at *
  generalize w4.heap.size = k at *
  refine (mchoose_is _ _ _ _ _ _ _ _ _ (t + 1) e 3 0 (hP1.slN L1.out (by omega)) (hP0.slN L0.out (by omega)) (by omega) (by omega) CH2 TP).mono ?_
  rintro r w6 ⟨rfl, hb6'⟩
  have hb6 := hb5.trans (hb6'.mono hb5.size)
  have hk := blk_below hk hb6' (blk_lt hk)
  obtain ⟨⟨a0, a1, a2, a3⟩, f0, f1, f2, f3⟩ := cell4 hk
  have hbz := below4 hb6 hkw (.int .u64 ((t : Int) + 1 : Int)) (.int .u32 (e : Int)) (.int .u32 3) (.int .u32 0)
  clear hb5 hb6' hP0 hP1 h4w h4 hc
  rw [EC.out]
  go_wp2_with (first | (go_at_call 16; refine (slot_is _ (t : Int) 1 (by omega) (by omega) s1).mono ?_; rintro r w' ⟨rfl, rfl⟩) | (go_at_call 16; refine (slot_is _ ((t : Int) + 1) 0 (by omega) (by omega) s2).mono ?_; rintro r w' ⟨rfl, rfl⟩))
  go_ret
  exact ⟨rfl, hbz⟩

set_option maxRecDepth 20000 in
set_option maxHeartbeats 2000000 in
theorem turns_m010 (w : World) (t e : Nat) (ht : t < 18446744073709551616) (he : e < 4294967296) (S : Int) (gone : Bool) (A4 : Option Addr) (n4 c4 : Nat) (l4 : List UInt8) (h4 : Sl w w.heap.size A4 n4 c4 l4) (size : Nat) (hS : S = (size : Int)) (h1 : 512 ≤ size) (h2 : size ≤ 4096) (q3 : 1 ≤ t) (q4 : t < 18446744073709551615) (q5 : 4 ≤ e) (q6 : n4 ≤ 5000) (hz : 0 < n4) (q7 : Hid (l4[0]? ≠ some 82)) (hg : gone = true) (ho : t % 2 = 0) :
    Calls Try.prog 6 #[.int .u64 (t : Int), .int .u32 (e : Int), .int .i64 S, .bool gone, .slice A4 n4 c4] w fun r w' => r = .returned (.bool true) ∧ Below w.heap.size w w' := by
  subst hS hg
  have d1 : decide ((size : Int) < (512 : Int)) = false := decide_eq_false (by omega)
  have d2 : decide ((4096 : Int) < (size : Int)) = false := decide_eq_false (by omega)
  have d3 : decide ((t : Int) < (1 : Int)) = false := decide_eq_false (by omega)
  have d4 : ((t : Int) == 18446744073709551615) = false := by simp; omega
  have d5 : decide ((e : Int) < (4 : Int)) = false := decide_eq_false (by omega)
  have d6 : decide ((5000 : Int) < (n4 : Int)) = false := decide_eq_false (by omega)
  have d7 : decide ((0 : Int) < (n4 : Int)) = true := decide_eq_true (by omega)
  have d7n : decide (0 < n4) = true := decide_eq_true (by omega)
  obtain ⟨ad, b, hA, hadb, hb, hc⟩ := h4.get (k := 0) (by omega)
  subst hA
  rw [Addr.add_zero'] at hc
  have hb82 : ¬ ((b.toNat : Int) = 82) := fun h => q7.out (by rw [hb]; congr 1; exact UInt8.toNat_inj.1 (by simpa using (by omega : b.toNat = 82)))
  have d8 : ((b.toNat : Int) == 82) = false := by simpa using hb82
  clear hb hb82
  have hRa : MRight t e 2 0 := ⟨by unfold badPage; omega, by unfold badPage; omega, q3, by omega⟩
  have hRb : MRight (t + 1) e 3 0 := ⟨by unfold badPage; omega, by unfold badPage; omega, by omega, by omega⟩
  have CH1 := Lib.hid (show mChosen (mPut t e 2 0 size) l4 = (t, e, 2, 0) from by
    unfold mChosen
    rw [mStep_other 1 l4 _ q7.out, mStep_put 0 t e 2 0 size _ (by omega) he (by omega) (by omega) hRa h1 h2]
    exact if_pos ⟨by omega, q3⟩)
  have TP := Lib.hid (show ¬ t = 0 by omega)
  have L0 := Lib.hid (mPut_length t e 2 0 size (by omega))
  have L1 := Lib.hid (mPut_length (t + 1) e 3 0 size (by omega))
  have hp1 := fun w : World => mput_ok w t e 2 0 size (by omega) he (by omega) (by omega) hRa h1 h2
  have hp2 := fun w : World => mput_ok w (t + 1) e 3 0 size (by omega) he (by omega) (by omega) hRb h1 h2
  have ecast : ((t + 1 : Nat) : Int) = (t : Int) + 1 := by omega
  simp only [ecast, show ((2 : Nat) : Int) = 2 from rfl, show ((3 : Nat) : Int) = 3 from rfl, show ((0 : Nat) : Int) = 0 from rfl] at hp1 hp2
  have HP1 := Lib.hid hp1
  have HP2 := Lib.hid hp2
  have s1 : Hid ((0 : Int) = (t : Int) % 2) := Lib.hid (by omega)
  have s2 : Hid ((1 : Int) = ((t : Int) + 1) % 2) := Lib.hid (by omega)
  have EC := Lib.hid ecast
  have hw1 : IntKind.u64.wrap ((t : Int) + 1) = (t : Int) + 1 := IntWalk.u64_in _ (by omega)
  have hpar : (((t : Int) % 2) == 1) = false := by simp; omega
  clear hp1 hp2 ecast ho 
  go_enter Try.func6, Try.ntmps6
  go_wp2_with fail
  refine (awake7 _).mono ?_
  rintro r w1 ⟨rfl, hb1⟩
  have hc1 := (hb1.cell (p := ad) hadb).trans hc
  go_wp2_with fail
  refine (HP1.out _).mono ?_
  rintro r w2 ⟨p0, rfl, hp0, hP0, hb2'⟩
  have hb2 := hb1.trans (hb2'.mono hb1.size)
  clear hb1 hb2' hc1
  go_wp2_with fail
  refine (HP2.out _).mono ?_
  rintro r w3 ⟨p1, rfl, hp1, hP1, hb3'⟩
  have hb3 := hb2.trans (hb3'.mono hb2.size)
  have hP0 := hP0.below hb3' hP0.lt
  have h4w := (h4.below hb3).lt'
  clear hb2 hb3'
  go_wp2_with fail
  refine (mchoose_is _ _ _ _ _ _ _ _ _ t e 2 0 (hP0.slN L0.out (by omega)) h4w (by omega) (by omega) CH1 TP).mono ?_
  rintro r w4 ⟨rfl, hb4'⟩
  have hbz := (hb3.trans (hb4'.mono hb3.size)).alloc (by have := hb4'.size; have := hb3.size; omega) (.cells #[.int .u64 (t : Int), .int .u32 (e : Int), .int .u32 2, .int .u32 0] 29)
  clear hb3 hb4' hP0 hP1 h4w h4 hc
  go_wp2_with (first | (go_at_call 16; refine (slot_is _ (t : Int) 0 (by omega) (by omega) s1).mono ?_; rintro r w' ⟨rfl, rfl⟩) | (go_at_call 16; refine (slot_is _ ((t : Int) + 1) 1 (by omega) (by omega) s2).mono ?_; rintro r w' ⟨rfl, rfl⟩))
  go_ret
  exact ⟨rfl, hbz⟩

set_option maxRecDepth 20000 in
set_option maxHeartbeats 2000000 in
theorem turns_m011 (w : World) (t e : Nat) (ht : t < 18446744073709551616) (he : e < 4294967296) (S : Int) (gone : Bool) (A4 : Option Addr) (n4 c4 : Nat) (l4 : List UInt8) (h4 : Sl w w.heap.size A4 n4 c4 l4) (size : Nat) (hS : S = (size : Int)) (h1 : 512 ≤ size) (h2 : size ≤ 4096) (q3 : 1 ≤ t) (q4 : t < 18446744073709551615) (q5 : 4 ≤ e) (q6 : n4 ≤ 5000) (hz : 0 < n4) (q7 : Hid (l4[0]? ≠ some 82)) (hg : gone = true) (ho : t % 2 = 1) :
    Calls Try.prog 6 #[.int .u64 (t : Int), .int .u32 (e : Int), .int .i64 S, .bool gone, .slice A4 n4 c4] w fun r w' => r = .returned (.bool true) ∧ Below w.heap.size w w' := by
  subst hS hg
  have d1 : decide ((size : Int) < (512 : Int)) = false := decide_eq_false (by omega)
  have d2 : decide ((4096 : Int) < (size : Int)) = false := decide_eq_false (by omega)
  have d3 : decide ((t : Int) < (1 : Int)) = false := decide_eq_false (by omega)
  have d4 : ((t : Int) == 18446744073709551615) = false := by simp; omega
  have d5 : decide ((e : Int) < (4 : Int)) = false := decide_eq_false (by omega)
  have d6 : decide ((5000 : Int) < (n4 : Int)) = false := decide_eq_false (by omega)
  have d7 : decide ((0 : Int) < (n4 : Int)) = true := decide_eq_true (by omega)
  have d7n : decide (0 < n4) = true := decide_eq_true (by omega)
  obtain ⟨ad, b, hA, hadb, hb, hc⟩ := h4.get (k := 0) (by omega)
  subst hA
  rw [Addr.add_zero'] at hc
  have hb82 : ¬ ((b.toNat : Int) = 82) := fun h => q7.out (by rw [hb]; congr 1; exact UInt8.toNat_inj.1 (by simpa using (by omega : b.toNat = 82)))
  have d8 : ((b.toNat : Int) == 82) = false := by simpa using hb82
  clear hb hb82
  have hRa : MRight t e 2 0 := ⟨by unfold badPage; omega, by unfold badPage; omega, q3, by omega⟩
  have hRb : MRight (t + 1) e 3 0 := ⟨by unfold badPage; omega, by unfold badPage; omega, by omega, by omega⟩
  have CH1 := Lib.hid (show mChosen (mPut t e 2 0 size) l4 = (0, 0, 0, 0) from by
    unfold mChosen
    rw [mStep_other 1 l4 _ q7.out, mStep_put 0 t e 2 0 size _ (by omega) he (by omega) (by omega) hRa h1 h2]
    exact if_neg (fun h => by omega))
  have CH2 := Lib.hid (show mChosen l4 (mPut t e 2 0 size) = (t, e, 2, 0) from by
    unfold mChosen
    rw [mStep_other 0 l4 _ q7.out, mStep_put 1 t e 2 0 size _ (by omega) he (by omega) (by omega) hRa h1 h2]
    exact if_pos ⟨by omega, q3⟩)
  have TP := Lib.hid (show ¬ t = 0 by omega)
  have L0 := Lib.hid (mPut_length t e 2 0 size (by omega))
  have L1 := Lib.hid (mPut_length (t + 1) e 3 0 size (by omega))
  have hp1 := fun w : World => mput_ok w t e 2 0 size (by omega) he (by omega) (by omega) hRa h1 h2
  have hp2 := fun w : World => mput_ok w (t + 1) e 3 0 size (by omega) he (by omega) (by omega) hRb h1 h2
  have ecast : ((t + 1 : Nat) : Int) = (t : Int) + 1 := by omega
  simp only [ecast, show ((2 : Nat) : Int) = 2 from rfl, show ((3 : Nat) : Int) = 3 from rfl, show ((0 : Nat) : Int) = 0 from rfl] at hp1 hp2
  have HP1 := Lib.hid hp1
  have HP2 := Lib.hid hp2
  have s1 : Hid ((1 : Int) = (t : Int) % 2) := Lib.hid (by omega)
  have s2 : Hid ((0 : Int) = ((t : Int) + 1) % 2) := Lib.hid (by omega)
  have EC := Lib.hid ecast
  have hw1 : IntKind.u64.wrap ((t : Int) + 1) = (t : Int) + 1 := IntWalk.u64_in _ (by omega)
  have hpar : (((t : Int) % 2) == 1) = true := by simp; omega
  clear hp1 hp2 ecast ho 
  go_enter Try.func6, Try.ntmps6
  go_wp2_with fail
  refine (awake7 _).mono ?_
  rintro r w1 ⟨rfl, hb1⟩
  have hc1 := (hb1.cell (p := ad) hadb).trans hc
  go_wp2_with fail
  refine (HP1.out _).mono ?_
  rintro r w2 ⟨p0, rfl, hp0, hP0, hb2'⟩
  have hb2 := hb1.trans (hb2'.mono hb1.size)
  clear hb1 hb2' hc1
  go_wp2_with fail
  refine (HP2.out _).mono ?_
  rintro r w3 ⟨p1, rfl, hp1, hP1, hb3'⟩
  have hb3 := hb2.trans (hb3'.mono hb2.size)
  have hP0 := hP0.below hb3' hP0.lt
  have h4w := (h4.below hb3).lt'
  clear hb2 hb3'
  go_wp2_with fail
  refine (mchoose_none _ _ _ _ _ _ _ _ _ (hP0.slN L0.out (by omega)) h4w (by omega) (by omega) CH1).mono ?_
  rintro r w4 ⟨rfl, hb4'⟩
  have hb4 := hb3.trans (hb4'.mono hb3.size)
  have hP0 : RowB _ _ _ := blk_alloc (hP0.below hb4' hP0.lt) (.cells #[.int .u64 0, .int .u32 0, .int .u32 0, .int .u32 0] 29)
  have hP1 : RowB _ _ _ := blk_alloc (hP1.below hb4' hP1.lt) (.cells #[.int .u64 0, .int .u32 0, .int .u32 0, .int .u32 0] 29)
  have hk := heap_alloc_new w4 (.cells #[.int .u64 0, .int .u32 0, .int .u32 0, .int .u32 0] 29)
  have hb5 := hb4.alloc hb4.size (.cells #[.int .u64 0, .int .u32 0, .int .u32 0, .int .u32 0] 29)
  have hkw : w.heap.size ≤ w4.heap.size := hb4.size
  have h4w := (h4.below hb5).lt'
  clear hb3 hb4' hb4
  go_wp2_with fail
  generalize w4.alloc (.cells #[.int .u64 0, .int .u32 0, .int .u32 0, .int .u32 0] 29) = w5 at *
  generalize w4.heap.size = k at *
  refine (mchoose_is _ _ _ _ _ _ _ _ _ t e 2 0 h4w (hP0.slN L0.out (by omega)) (by omega) (by omega) CH2 TP).mono ?_
  rintro r w6 ⟨rfl, hb6'⟩
  have hb6 := hb5.trans (hb6'.mono hb5.size)
  have hk := blk_below hk hb6' (blk_lt hk)
  obtain ⟨⟨a0, a1, a2, a3⟩, f0, f1, f2, f3⟩ := cell4 hk
  have hbz := below4 hb6 hkw (.int .u64 (t : Int)) (.int .u32 (e : Int)) (.int .u32 2) (.int .u32 0)
  clear hb5 hb6' hP0 hP1 h4w h4 hc
  go_wp2_with (first | (go_at_call 16; refine (slot_is _ (t : Int) 1 (by omega) (by omega) s1).mono ?_; rintro r w' ⟨rfl, rfl⟩) | (go_at_call 16; refine (slot_is _ ((t : Int) + 1) 0 (by omega) (by omega) s2).mono ?_; rintro r w' ⟨rfl, rfl⟩))
  go_ret
  exact ⟨rfl, hbz⟩

set_option maxRecDepth 20000 in
set_option maxHeartbeats 2000000 in
theorem turns_m100 (w : World) (t e : Nat) (ht : t < 18446744073709551616) (he : e < 4294967296) (S : Int) (gone : Bool) (A4 : Option Addr) (n4 c4 : Nat) (l4 : List UInt8) (h4 : Sl w w.heap.size A4 n4 c4 l4) (size : Nat) (hS : S = (size : Int)) (h1 : 512 ≤ size) (h2 : size ≤ 4096) (q3 : 1 ≤ t) (q4 : t < 18446744073709551615) (q5 : 4 ≤ e) (q6 : n4 ≤ 5000) (hz : n4 < 1) (q7 : Hid (l4[0]? ≠ some 82)) (hg : gone = false) (ho : t % 2 = 0) :
    Calls Try.prog 6 #[.int .u64 (t : Int), .int .u32 (e : Int), .int .i64 S, .bool gone, .slice A4 n4 c4] w fun r w' => r = .returned (.bool true) ∧ Below w.heap.size w w' := by
  subst hS hg
  have d1 : decide ((size : Int) < (512 : Int)) = false := decide_eq_false (by omega)
  have d2 : decide ((4096 : Int) < (size : Int)) = false := decide_eq_false (by omega)
  have d3 : decide ((t : Int) < (1 : Int)) = false := decide_eq_false (by omega)
  have d4 : ((t : Int) == 18446744073709551615) = false := by simp; omega
  have d5 : decide ((e : Int) < (4 : Int)) = false := decide_eq_false (by omega)
  have d6 : decide ((5000 : Int) < (n4 : Int)) = false := decide_eq_false (by omega)
  have d7 : decide ((0 : Int) < (n4 : Int)) = false := decide_eq_false (by omega)
  have d7n : decide (0 < n4) = false := decide_eq_false (by omega)
  have hRa : MRight t e 2 0 := ⟨by unfold badPage; omega, by unfold badPage; omega, q3, by omega⟩
  have hRb : MRight (t + 1) e 3 0 := ⟨by unfold badPage; omega, by unfold badPage; omega, by omega, by omega⟩
  have CH1 := Lib.hid (show mChosen (mPut t e 2 0 size) (mPut (t + 1) e 3 0 size) = (t + 1, e, 3, 0) from by
    rw [chosen_right t e 2 0 (t + 1) e 3 0 size (by omega) he (by omega) (by omega) (by omega) he (by omega) (by omega) hRa hRb h1 h2 (by omega) (by omega)]
    exact if_pos (by omega))
  have TP := Lib.hid (show ¬ (t + 1) = 0 by omega)
  have L0 := Lib.hid (mPut_length t e 2 0 size (by omega))
  have L1 := Lib.hid (mPut_length (t + 1) e 3 0 size (by omega))
  have hp1 := fun w : World => mput_ok w t e 2 0 size (by omega) he (by omega) (by omega) hRa h1 h2
  have hp2 := fun w : World => mput_ok w (t + 1) e 3 0 size (by omega) he (by omega) (by omega) hRb h1 h2
  have ecast : ((t + 1 : Nat) : Int) = (t : Int) + 1 := by omega
  simp only [ecast, show ((2 : Nat) : Int) = 2 from rfl, show ((3 : Nat) : Int) = 3 from rfl, show ((0 : Nat) : Int) = 0 from rfl] at hp1 hp2
  have HP1 := Lib.hid hp1
  have HP2 := Lib.hid hp2
  have s1 : Hid ((0 : Int) = (t : Int) % 2) := Lib.hid (by omega)
  have s2 : Hid ((1 : Int) = ((t : Int) + 1) % 2) := Lib.hid (by omega)
  have EC := Lib.hid ecast
  have hw1 : IntKind.u64.wrap ((t : Int) + 1) = (t : Int) + 1 := IntWalk.u64_in _ (by omega)
  have hpar : (((t : Int) % 2) == 1) = false := by simp; omega
  clear hp1 hp2 ecast ho 
  go_enter Try.func6, Try.ntmps6
  go_wp2_with fail
  refine (awake7 _).mono ?_
  rintro r w1 ⟨rfl, hb1⟩
  go_wp2_with fail
  refine (HP1.out _).mono ?_
  rintro r w2 ⟨p0, rfl, hp0, hP0, hb2'⟩
  have hb2 := hb1.trans (hb2'.mono hb1.size)
  clear hb1 hb2' 
  go_wp2_with fail
  refine (HP2.out _).mono ?_
  rintro r w3 ⟨p1, rfl, hp1, hP1, hb3'⟩
  have hb3 := hb2.trans (hb3'.mono hb2.size)
  have hP0 := hP0.below hb3' hP0.lt
  have h4w := (h4.below hb3).lt'
  clear hb2 hb3'
  go_wp2_with fail
  refine (mchoose_is _ _ _ _ _ _ _ _ _ (t + 1) e 3 0 (hP0.slN L0.out (by omega)) (hP1.slN L1.out (by omega)) (by omega) (by omega) CH1 TP).mono ?_
  rintro r w4 ⟨rfl, hb4'⟩
  have hbz := (hb3.trans (hb4'.mono hb3.size)).alloc (by have := hb4'.size; have := hb3.size; omega) (.cells #[.int .u64 ((t : Int) + 1 : Int), .int .u32 (e : Int), .int .u32 3, .int .u32 0] 29)
  clear hb3 hb4' hP0 hP1 h4w h4 
  rw [EC.out]
  go_wp2_with (first | (go_at_call 16; refine (slot_is _ (t : Int) 0 (by omega) (by omega) s1).mono ?_; rintro r w' ⟨rfl, rfl⟩) | (go_at_call 16; refine (slot_is _ ((t : Int) + 1) 1 (by omega) (by omega) s2).mono ?_; rintro r w' ⟨rfl, rfl⟩))
  go_ret
  exact ⟨rfl, hbz⟩

set_option maxRecDepth 20000 in
set_option maxHeartbeats 2000000 in
theorem turns_m101 (w : World) (t e : Nat) (ht : t < 18446744073709551616) (he : e < 4294967296) (S : Int) (gone : Bool) (A4 : Option Addr) (n4 c4 : Nat) (l4 : List UInt8) (h4 : Sl w w.heap.size A4 n4 c4 l4) (size : Nat) (hS : S = (size : Int)) (h1 : 512 ≤ size) (h2 : size ≤ 4096) (q3 : 1 ≤ t) (q4 : t < 18446744073709551615) (q5 : 4 ≤ e) (q6 : n4 ≤ 5000) (hz : n4 < 1) (q7 : Hid (l4[0]? ≠ some 82)) (hg : gone = false) (ho : t % 2 = 1) :
    Calls Try.prog 6 #[.int .u64 (t : Int), .int .u32 (e : Int), .int .i64 S, .bool gone, .slice A4 n4 c4] w fun r w' => r = .returned (.bool true) ∧ Below w.heap.size w w' := by
  subst hS hg
  have d1 : decide ((size : Int) < (512 : Int)) = false := decide_eq_false (by omega)
  have d2 : decide ((4096 : Int) < (size : Int)) = false := decide_eq_false (by omega)
  have d3 : decide ((t : Int) < (1 : Int)) = false := decide_eq_false (by omega)
  have d4 : ((t : Int) == 18446744073709551615) = false := by simp; omega
  have d5 : decide ((e : Int) < (4 : Int)) = false := decide_eq_false (by omega)
  have d6 : decide ((5000 : Int) < (n4 : Int)) = false := decide_eq_false (by omega)
  have d7 : decide ((0 : Int) < (n4 : Int)) = false := decide_eq_false (by omega)
  have d7n : decide (0 < n4) = false := decide_eq_false (by omega)
  have hRa : MRight t e 2 0 := ⟨by unfold badPage; omega, by unfold badPage; omega, q3, by omega⟩
  have hRb : MRight (t + 1) e 3 0 := ⟨by unfold badPage; omega, by unfold badPage; omega, by omega, by omega⟩
  have CH1 := Lib.hid (show mChosen (mPut t e 2 0 size) (mPut (t + 1) e 3 0 size) = (0, 0, 0, 0) from chosen_wrong (t + 1) e 3 0 t e 2 0 size (by omega) he (by omega) (by omega) (by omega) he (by omega) (by omega) hRb hRa h1 h2 (by omega) (by omega))
  have CH2 := Lib.hid (show mChosen (mPut (t + 1) e 3 0 size) (mPut t e 2 0 size) = (t + 1, e, 3, 0) from by
    rw [chosen_right (t + 1) e 3 0 t e 2 0 size (by omega) he (by omega) (by omega) (by omega) he (by omega) (by omega) hRb hRa h1 h2 (by omega) (by omega)]
    exact if_neg (by omega))
  have TP := Lib.hid (show ¬ (t + 1) = 0 by omega)
  have L0 := Lib.hid (mPut_length t e 2 0 size (by omega))
  have L1 := Lib.hid (mPut_length (t + 1) e 3 0 size (by omega))
  have hp1 := fun w : World => mput_ok w t e 2 0 size (by omega) he (by omega) (by omega) hRa h1 h2
  have hp2 := fun w : World => mput_ok w (t + 1) e 3 0 size (by omega) he (by omega) (by omega) hRb h1 h2
  have ecast : ((t + 1 : Nat) : Int) = (t : Int) + 1 := by omega
  simp only [ecast, show ((2 : Nat) : Int) = 2 from rfl, show ((3 : Nat) : Int) = 3 from rfl, show ((0 : Nat) : Int) = 0 from rfl] at hp1 hp2
  have HP1 := Lib.hid hp1
  have HP2 := Lib.hid hp2
  have s1 : Hid ((1 : Int) = (t : Int) % 2) := Lib.hid (by omega)
  have s2 : Hid ((0 : Int) = ((t : Int) + 1) % 2) := Lib.hid (by omega)
  have EC := Lib.hid ecast
  have hw1 : IntKind.u64.wrap ((t : Int) + 1) = (t : Int) + 1 := IntWalk.u64_in _ (by omega)
  have hpar : (((t : Int) % 2) == 1) = true := by simp; omega
  clear hp1 hp2 ecast ho 
  go_enter Try.func6, Try.ntmps6
  go_wp2_with fail
  refine (awake7 _).mono ?_
  rintro r w1 ⟨rfl, hb1⟩
  go_wp2_with fail
  refine (HP1.out _).mono ?_
  rintro r w2 ⟨p0, rfl, hp0, hP0, hb2'⟩
  have hb2 := hb1.trans (hb2'.mono hb1.size)
  clear hb1 hb2' 
  go_wp2_with fail
  refine (HP2.out _).mono ?_
  rintro r w3 ⟨p1, rfl, hp1, hP1, hb3'⟩
  have hb3 := hb2.trans (hb3'.mono hb2.size)
  have hP0 := hP0.below hb3' hP0.lt
  have h4w := (h4.below hb3).lt'
  clear hb2 hb3'
  go_wp2_with fail
  refine (mchoose_none _ _ _ _ _ _ _ _ _ (hP0.slN L0.out (by omega)) (hP1.slN L1.out (by omega)) (by omega) (by omega) CH1).mono ?_
  rintro r w4 ⟨rfl, hb4'⟩
  have hb4 := hb3.trans (hb4'.mono hb3.size)
  have hP0 : RowB _ _ _ := blk_alloc (hP0.below hb4' hP0.lt) (.cells #[.int .u64 0, .int .u32 0, .int .u32 0, .int .u32 0] 29)
  have hP1 : RowB _ _ _ := blk_alloc (hP1.below hb4' hP1.lt) (.cells #[.int .u64 0, .int .u32 0, .int .u32 0, .int .u32 0] 29)
  have hk := heap_alloc_new w4 (.cells #[.int .u64 0, .int .u32 0, .int .u32 0, .int .u32 0] 29)
  have hb5 := hb4.alloc hb4.size (.cells #[.int .u64 0, .int .u32 0, .int .u32 0, .int .u32 0] 29)
  have hkw : w.heap.size ≤ w4.heap.size := hb4.size
  have h4w := (h4.below hb5).lt'
  clear hb3 hb4' hb4
  go_wp2_with fail
  generalize w4.alloc (.cells #[.int .u64 0, .int .u32 0, .int .u32 0, .int .u32 0] 29) = w5 at *
  generalize w4.heap.size = k at *
  refine (mchoose_is _ _ _ _ _ _ _ _ _ (t + 1) e 3 0 (hP1.slN L1.out (by omega)) (hP0.slN L0.out (by omega)) (by omega) (by omega) CH2 TP).mono ?_
  rintro r w6 ⟨rfl, hb6'⟩
  have hb6 := hb5.trans (hb6'.mono hb5.size)
  have hk := blk_below hk hb6' (blk_lt hk)
  obtain ⟨⟨a0, a1, a2, a3⟩, f0, f1, f2, f3⟩ := cell4 hk
  have hbz := below4 hb6 hkw (.int .u64 ((t : Int) + 1 : Int)) (.int .u32 (e : Int)) (.int .u32 3) (.int .u32 0)
  clear hb5 hb6' hP0 hP1 h4w h4 
  rw [EC.out]
  go_wp2_with (first | (go_at_call 16; refine (slot_is _ (t : Int) 1 (by omega) (by omega) s1).mono ?_; rintro r w' ⟨rfl, rfl⟩) | (go_at_call 16; refine (slot_is _ ((t : Int) + 1) 0 (by omega) (by omega) s2).mono ?_; rintro r w' ⟨rfl, rfl⟩))
  go_ret
  exact ⟨rfl, hbz⟩

set_option maxRecDepth 20000 in
set_option maxHeartbeats 2000000 in
theorem turns_m110 (w : World) (t e : Nat) (ht : t < 18446744073709551616) (he : e < 4294967296) (S : Int) (gone : Bool) (A4 : Option Addr) (n4 c4 : Nat) (l4 : List UInt8) (h4 : Sl w w.heap.size A4 n4 c4 l4) (size : Nat) (hS : S = (size : Int)) (h1 : 512 ≤ size) (h2 : size ≤ 4096) (q3 : 1 ≤ t) (q4 : t < 18446744073709551615) (q5 : 4 ≤ e) (q6 : n4 ≤ 5000) (hz : n4 < 1) (q7 : Hid (l4[0]? ≠ some 82)) (hg : gone = true) (ho : t % 2 = 0) :
    Calls Try.prog 6 #[.int .u64 (t : Int), .int .u32 (e : Int), .int .i64 S, .bool gone, .slice A4 n4 c4] w fun r w' => r = .returned (.bool true) ∧ Below w.heap.size w w' := by
  subst hS hg
  have d1 : decide ((size : Int) < (512 : Int)) = false := decide_eq_false (by omega)
  have d2 : decide ((4096 : Int) < (size : Int)) = false := decide_eq_false (by omega)
  have d3 : decide ((t : Int) < (1 : Int)) = false := decide_eq_false (by omega)
  have d4 : ((t : Int) == 18446744073709551615) = false := by simp; omega
  have d5 : decide ((e : Int) < (4 : Int)) = false := decide_eq_false (by omega)
  have d6 : decide ((5000 : Int) < (n4 : Int)) = false := decide_eq_false (by omega)
  have d7 : decide ((0 : Int) < (n4 : Int)) = false := decide_eq_false (by omega)
  have d7n : decide (0 < n4) = false := decide_eq_false (by omega)
  have hRa : MRight t e 2 0 := ⟨by unfold badPage; omega, by unfold badPage; omega, q3, by omega⟩
  have hRb : MRight (t + 1) e 3 0 := ⟨by unfold badPage; omega, by unfold badPage; omega, by omega, by omega⟩
  have CH1 := Lib.hid (show mChosen (mPut t e 2 0 size) l4 = (t, e, 2, 0) from by
    unfold mChosen
    rw [mStep_other 1 l4 _ q7.out, mStep_put 0 t e 2 0 size _ (by omega) he (by omega) (by omega) hRa h1 h2]
    exact if_pos ⟨by omega, q3⟩)
  have TP := Lib.hid (show ¬ t = 0 by omega)
  have L0 := Lib.hid (mPut_length t e 2 0 size (by omega))
  have L1 := Lib.hid (mPut_length (t + 1) e 3 0 size (by omega))
  have hp1 := fun w : World => mput_ok w t e 2 0 size (by omega) he (by omega) (by omega) hRa h1 h2
  have hp2 := fun w : World => mput_ok w (t + 1) e 3 0 size (by omega) he (by omega) (by omega) hRb h1 h2
  have ecast : ((t + 1 : Nat) : Int) = (t : Int) + 1 := by omega
  simp only [ecast, show ((2 : Nat) : Int) = 2 from rfl, show ((3 : Nat) : Int) = 3 from rfl, show ((0 : Nat) : Int) = 0 from rfl] at hp1 hp2
  have HP1 := Lib.hid hp1
  have HP2 := Lib.hid hp2
  have s1 : Hid ((0 : Int) = (t : Int) % 2) := Lib.hid (by omega)
  have s2 : Hid ((1 : Int) = ((t : Int) + 1) % 2) := Lib.hid (by omega)
  have EC := Lib.hid ecast
  have hw1 : IntKind.u64.wrap ((t : Int) + 1) = (t : Int) + 1 := IntWalk.u64_in _ (by omega)
  have hpar : (((t : Int) % 2) == 1) = false := by simp; omega
  clear hp1 hp2 ecast ho 
  go_enter Try.func6, Try.ntmps6
  go_wp2_with fail
  refine (awake7 _).mono ?_
  rintro r w1 ⟨rfl, hb1⟩
  go_wp2_with fail
  refine (HP1.out _).mono ?_
  rintro r w2 ⟨p0, rfl, hp0, hP0, hb2'⟩
  have hb2 := hb1.trans (hb2'.mono hb1.size)
  clear hb1 hb2' 
  go_wp2_with fail
  refine (HP2.out _).mono ?_
  rintro r w3 ⟨p1, rfl, hp1, hP1, hb3'⟩
  have hb3 := hb2.trans (hb3'.mono hb2.size)
  have hP0 := hP0.below hb3' hP0.lt
  have h4w := (h4.below hb3).lt'
  clear hb2 hb3'
  go_wp2_with fail
  refine (mchoose_is _ _ _ _ _ _ _ _ _ t e 2 0 (hP0.slN L0.out (by omega)) h4w (by omega) (by omega) CH1 TP).mono ?_
  rintro r w4 ⟨rfl, hb4'⟩
  have hbz := (hb3.trans (hb4'.mono hb3.size)).alloc (by have := hb4'.size; have := hb3.size; omega) (.cells #[.int .u64 (t : Int), .int .u32 (e : Int), .int .u32 2, .int .u32 0] 29)
  clear hb3 hb4' hP0 hP1 h4w h4 
  go_wp2_with (first | (go_at_call 16; refine (slot_is _ (t : Int) 0 (by omega) (by omega) s1).mono ?_; rintro r w' ⟨rfl, rfl⟩) | (go_at_call 16; refine (slot_is _ ((t : Int) + 1) 1 (by omega) (by omega) s2).mono ?_; rintro r w' ⟨rfl, rfl⟩))
  go_ret
  exact ⟨rfl, hbz⟩

set_option maxRecDepth 20000 in
set_option maxHeartbeats 2000000 in
theorem turns_m111 (w : World) (t e : Nat) (ht : t < 18446744073709551616) (he : e < 4294967296) (S : Int) (gone : Bool) (A4 : Option Addr) (n4 c4 : Nat) (l4 : List UInt8) (h4 : Sl w w.heap.size A4 n4 c4 l4) (size : Nat) (hS : S = (size : Int)) (h1 : 512 ≤ size) (h2 : size ≤ 4096) (q3 : 1 ≤ t) (q4 : t < 18446744073709551615) (q5 : 4 ≤ e) (q6 : n4 ≤ 5000) (hz : n4 < 1) (q7 : Hid (l4[0]? ≠ some 82)) (hg : gone = true) (ho : t % 2 = 1) :
    Calls Try.prog 6 #[.int .u64 (t : Int), .int .u32 (e : Int), .int .i64 S, .bool gone, .slice A4 n4 c4] w fun r w' => r = .returned (.bool true) ∧ Below w.heap.size w w' := by
  subst hS hg
  have d1 : decide ((size : Int) < (512 : Int)) = false := decide_eq_false (by omega)
  have d2 : decide ((4096 : Int) < (size : Int)) = false := decide_eq_false (by omega)
  have d3 : decide ((t : Int) < (1 : Int)) = false := decide_eq_false (by omega)
  have d4 : ((t : Int) == 18446744073709551615) = false := by simp; omega
  have d5 : decide ((e : Int) < (4 : Int)) = false := decide_eq_false (by omega)
  have d6 : decide ((5000 : Int) < (n4 : Int)) = false := decide_eq_false (by omega)
  have d7 : decide ((0 : Int) < (n4 : Int)) = false := decide_eq_false (by omega)
  have d7n : decide (0 < n4) = false := decide_eq_false (by omega)
  have hRa : MRight t e 2 0 := ⟨by unfold badPage; omega, by unfold badPage; omega, q3, by omega⟩
  have hRb : MRight (t + 1) e 3 0 := ⟨by unfold badPage; omega, by unfold badPage; omega, by omega, by omega⟩
  have CH1 := Lib.hid (show mChosen (mPut t e 2 0 size) l4 = (0, 0, 0, 0) from by
    unfold mChosen
    rw [mStep_other 1 l4 _ q7.out, mStep_put 0 t e 2 0 size _ (by omega) he (by omega) (by omega) hRa h1 h2]
    exact if_neg (fun h => by omega))
  have CH2 := Lib.hid (show mChosen l4 (mPut t e 2 0 size) = (t, e, 2, 0) from by
    unfold mChosen
    rw [mStep_other 0 l4 _ q7.out, mStep_put 1 t e 2 0 size _ (by omega) he (by omega) (by omega) hRa h1 h2]
    exact if_pos ⟨by omega, q3⟩)
  have TP := Lib.hid (show ¬ t = 0 by omega)
  have L0 := Lib.hid (mPut_length t e 2 0 size (by omega))
  have L1 := Lib.hid (mPut_length (t + 1) e 3 0 size (by omega))
  have hp1 := fun w : World => mput_ok w t e 2 0 size (by omega) he (by omega) (by omega) hRa h1 h2
  have hp2 := fun w : World => mput_ok w (t + 1) e 3 0 size (by omega) he (by omega) (by omega) hRb h1 h2
  have ecast : ((t + 1 : Nat) : Int) = (t : Int) + 1 := by omega
  simp only [ecast, show ((2 : Nat) : Int) = 2 from rfl, show ((3 : Nat) : Int) = 3 from rfl, show ((0 : Nat) : Int) = 0 from rfl] at hp1 hp2
  have HP1 := Lib.hid hp1
  have HP2 := Lib.hid hp2
  have s1 : Hid ((1 : Int) = (t : Int) % 2) := Lib.hid (by omega)
  have s2 : Hid ((0 : Int) = ((t : Int) + 1) % 2) := Lib.hid (by omega)
  have EC := Lib.hid ecast
  have hw1 : IntKind.u64.wrap ((t : Int) + 1) = (t : Int) + 1 := IntWalk.u64_in _ (by omega)
  have hpar : (((t : Int) % 2) == 1) = true := by simp; omega
  clear hp1 hp2 ecast ho 
  go_enter Try.func6, Try.ntmps6
  go_wp2_with fail
  refine (awake7 _).mono ?_
  rintro r w1 ⟨rfl, hb1⟩
  go_wp2_with fail
  refine (HP1.out _).mono ?_
  rintro r w2 ⟨p0, rfl, hp0, hP0, hb2'⟩
  have hb2 := hb1.trans (hb2'.mono hb1.size)
  clear hb1 hb2' 
  go_wp2_with fail
  refine (HP2.out _).mono ?_
  rintro r w3 ⟨p1, rfl, hp1, hP1, hb3'⟩
  have hb3 := hb2.trans (hb3'.mono hb2.size)
  have hP0 := hP0.below hb3' hP0.lt
  have h4w := (h4.below hb3).lt'
  clear hb2 hb3'
  go_wp2_with fail
  refine (mchoose_none _ _ _ _ _ _ _ _ _ (hP0.slN L0.out (by omega)) h4w (by omega) (by omega) CH1).mono ?_
  rintro r w4 ⟨rfl, hb4'⟩
  have hb4 := hb3.trans (hb4'.mono hb3.size)
  have hP0 : RowB _ _ _ := blk_alloc (hP0.below hb4' hP0.lt) (.cells #[.int .u64 0, .int .u32 0, .int .u32 0, .int .u32 0] 29)
  have hP1 : RowB _ _ _ := blk_alloc (hP1.below hb4' hP1.lt) (.cells #[.int .u64 0, .int .u32 0, .int .u32 0, .int .u32 0] 29)
  have hk := heap_alloc_new w4 (.cells #[.int .u64 0, .int .u32 0, .int .u32 0, .int .u32 0] 29)
  have hb5 := hb4.alloc hb4.size (.cells #[.int .u64 0, .int .u32 0, .int .u32 0, .int .u32 0] 29)
  have hkw : w.heap.size ≤ w4.heap.size := hb4.size
  have h4w := (h4.below hb5).lt'
  clear hb3 hb4' hb4
  go_wp2_with fail
  generalize w4.alloc (.cells #[.int .u64 0, .int .u32 0, .int .u32 0, .int .u32 0] 29) = w5 at *
  generalize w4.heap.size = k at *
  refine (mchoose_is _ _ _ _ _ _ _ _ _ t e 2 0 h4w (hP0.slN L0.out (by omega)) (by omega) (by omega) CH2 TP).mono ?_
  rintro r w6 ⟨rfl, hb6'⟩
  have hb6 := hb5.trans (hb6'.mono hb5.size)
  have hk := blk_below hk hb6' (blk_lt hk)
  obtain ⟨⟨a0, a1, a2, a3⟩, f0, f1, f2, f3⟩ := cell4 hk
  have hbz := below4 hb6 hkw (.int .u64 (t : Int)) (.int .u32 (e : Int)) (.int .u32 2) (.int .u32 0)
  clear hb5 hb6' hP0 hP1 h4w h4 
  go_wp2_with (first | (go_at_call 16; refine (slot_is _ (t : Int) 1 (by omega) (by omega) s1).mono ?_; rintro r w' ⟨rfl, rfl⟩) | (go_at_call 16; refine (slot_is _ ((t : Int) + 1) 0 (by omega) (by omega) s2).mono ?_; rintro r w' ⟨rfl, rfl⟩))
  go_ret
  exact ⟨rfl, hbz⟩

set_option maxRecDepth 20000 in
set_option maxHeartbeats 2000000 in
theorem metaTurns_law (w : World) (t e : Nat) (ht : t < 18446744073709551616) (he : e < 4294967296) (S : Int) (gone : Bool) (A4 : Option Addr) (n4 c4 : Nat) (l4 : List UInt8) (h4 : Sl w w.heap.size A4 n4 c4 l4)  :
    Calls Try.prog 6 #[.int .u64 (t : Int), .int .u32 (e : Int), .int .i64 S, .bool gone, .slice A4 n4 c4] w fun r w' => r = .returned (.bool true) ∧ Below w.heap.size w w' := by
  by_cases q0 : S < 512
  · exact turns_e0 w t e ht he S gone A4 n4 c4 l4 h4 q0
  by_cases q1 : 4096 < S
  · exact turns_e1 w t e ht he S gone A4 n4 c4 l4 h4 q0 q1
  by_cases q2 : t < 1
  · exact turns_e2 w t e ht he S gone A4 n4 c4 l4 h4 q0 q1 q2
  by_cases q3 : t = 18446744073709551615
  · exact turns_e3 w t e ht he S gone A4 n4 c4 l4 h4 q0 q1 q2 q3
  by_cases q4 : e < 4
  · exact turns_e4 w t e ht he S gone A4 n4 c4 l4 h4 q0 q1 q2 q3 q4
  by_cases q5 : 5000 < n4
  · exact turns_e5 w t e ht he S gone A4 n4 c4 l4 h4 q0 q1 q2 q3 q4 q5
  by_cases q7 : l4[0]? = some 82
  · exact turns_r w t e ht he S gone A4 n4 c4 l4 h4 (by omega) (by omega) (by omega) (by omega) (by omega) (by omega) q7
  obtain ⟨size, rfl⟩ := Int.eq_ofNat_of_zero_le (show 0 ≤ S by omega)
  by_cases hz : n4 < 1
  · rcases (by omega : t % 2 = 0 ∨ t % 2 = 1) with ho | ho
    · cases hgo : gone
      · exact turns_m100 w t e ht he _ _ A4 n4 c4 l4 h4 size rfl (by omega) (by omega) (by omega) (by omega) (by omega) (by omega) hz (Lib.hid q7) rfl ho
      · exact turns_m110 w t e ht he _ _ A4 n4 c4 l4 h4 size rfl (by omega) (by omega) (by omega) (by omega) (by omega) (by omega) hz (Lib.hid q7) rfl ho
    · cases hgo : gone
      · exact turns_m101 w t e ht he _ _ A4 n4 c4 l4 h4 size rfl (by omega) (by omega) (by omega) (by omega) (by omega) (by omega) hz (Lib.hid q7) rfl ho
      · exact turns_m111 w t e ht he _ _ A4 n4 c4 l4 h4 size rfl (by omega) (by omega) (by omega) (by omega) (by omega) (by omega) hz (Lib.hid q7) rfl ho
  · rcases (by omega : t % 2 = 0 ∨ t % 2 = 1) with ho | ho
    · cases hgo : gone
      · exact turns_m000 w t e ht he _ _ A4 n4 c4 l4 h4 size rfl (by omega) (by omega) (by omega) (by omega) (by omega) (by omega) (by omega) (Lib.hid q7) rfl ho
      · exact turns_m010 w t e ht he _ _ A4 n4 c4 l4 h4 size rfl (by omega) (by omega) (by omega) (by omega) (by omega) (by omega) (by omega) (Lib.hid q7) rfl ho
    · cases hgo : gone
      · exact turns_m001 w t e ht he _ _ A4 n4 c4 l4 h4 size rfl (by omega) (by omega) (by omega) (by omega) (by omega) (by omega) (by omega) (Lib.hid q7) rfl ho
      · exact turns_m011 w t e ht he _ _ A4 n4 c4 l4 h4 size rfl (by omega) (by omega) (by omega) (by omega) (by omega) (by omega) (by omega) (Lib.hid q7) rfl ho

end Go.Proofs.Ytpipgeboddaipaa
