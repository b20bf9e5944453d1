/- Layer 7's statement: MetaSpoiled. -/
import Derived.Test.YtpipgeboddaipaaLawMetaSector
import Derived.Test.YtpipgeboddaipaaMetaS
import Derived.Laws.BitsAllLaws
namespace Go.Proofs.Ytpipgeboddaipaa
open Go.RowKit
set_option linter.unusedVariables false
set_option linter.unusedSimpArgs false

theorem xor_byte' (a b : UInt8) : bits BinOp.xor IntKind.u8 (a.toNat : Int) (b.toNat : Int) = ((a ^^^ b).toNat : Int) := by
  rw [u8_xor_nat _ _ a.toNat_lt b.toNat_lt]
  simp
theorem bit_other (u : UInt8) (R : Nat) (h : R < 8) : ∃ v : UInt8, bits BinOp.xor IntKind.u8 (u.toNat : Int) (2 ^ R % 256) = (v.toNat : Int) ∧ v ≠ u := by
  have e : ((2 ^ R % 256 : Int)) = ((UInt8.ofNat (2 ^ R)).toNat : Int) := by
    rcases (by omega : R = 0 ∨ R = 1 ∨ R = 2 ∨ R = 3 ∨ R = 4 ∨ R = 5 ∨ R = 6 ∨ R = 7) with rfl | rfl | rfl | rfl | rfl | rfl | rfl | rfl <;> rfl
  have n : UInt8.ofNat (2 ^ R) ≠ 0 := by
    rcases (by omega : R = 0 ∨ R = 1 ∨ R = 2 ∨ R = 3 ∨ R = 4 ∨ R = 5 ∨ R = 6 ∨ R = 7) with rfl | rfl | rfl | rfl | rfl | rfl | rfl | rfl <;> decide
  refine ⟨u ^^^ UInt8.ofNat (2 ^ R), by rw [e]; exact xor_byte' _ _, fun hh => n ?_⟩
  have : u ^^^ (u ^^^ UInt8.ofNat (2 ^ R)) = u ^^^ u := by rw [hh]
  rwa [← UInt8.xor_assoc, UInt8.xor_self, UInt8.zero_xor] at this
theorem mget_none (w : World) (B : Nat) (A : Option Addr) (n c : Nat) (l : List UInt8) (X : Int) (h : Sl w B A n c l) (hn : n ≤ 140737488355328) (hg : Hid (mGet l = (none, X))) :
    Calls Try.prog 17 #[.slice A n c] w fun r w' => r = .returned (.tuple #[.agg #[.int .u64 0, .int .u32 0, .int .u32 0, .int .u32 0], .int .i64 X]) ∧ Below w.heap.size w w' := by
  have := mget_any w B A n c l h hn
  rw [hg.out] at this
  exact this

set_option maxRecDepth 20000 in
set_option maxHeartbeats 2000000 in
theorem spoiled_no (w : World) (t0 e0 m0 f0 : Nat) (ht0 : t0 < 18446744073709551616) (he0 : e0 < 4294967296) (hm0 : m0 < 4294967296) (hf0 : f0 < 4294967296) (S : Int) (a : Nat) (ha : a < 65536) (hno : ¬ (MRight t0 e0 m0 f0 ∧ 512 ≤ S ∧ S ≤ 4096)) :
    Calls Try.prog 9 #[.agg #[.int .u64 (t0 : Int), .int .u32 (e0 : Int), .int .u32 (m0 : Int), .int .u32 (f0 : Int)], .int .i64 S, .int .u16 (a : Int)] w fun r w' => r = .returned (.bool true) ∧ Below w.heap.size w w' := by
  have HNO := Lib.hid hno
  clear hno
  have hx0 := heap_alloc_new w (.cells #[.int .u64 (t0 : Int), .int .u32 (e0 : Int), .int .u32 (m0 : Int), .int .u32 (f0 : Int)] 25)
  have hb0 : Below w.heap.size w (w.alloc (.cells #[.int .u64 (t0 : Int), .int .u32 (e0 : Int), .int .u32 (m0 : Int), .int .u32 (f0 : Int)] 25)) := (Below.refl _ _).alloc (Nat.le_refl _) _
  have HX0 := Lib.hid hx0
  clear hx0
  go_enter Try.func9, Try.ntmps9
  go_wp2_with fail
  refine (awake7 _).mono ?_
  rintro r w1 ⟨rfl, hb1'⟩
  have hb1 := hb0.trans (hb1'.mono hb0.size)
  have hx0 := blk_below HX0.out hb1' (blk_lt HX0.out)
  obtain ⟨⟨x00, x01, x02, x03⟩, _⟩ := cell4 hx0
  clear hb0 hb1' HX0
  go_wp2_with fail
  refine (of_any _ t0 e0 m0 f0).mono ?_
  rintro r w2 ⟨rfl, hb2'⟩
  have hb2 := hb1.trans (hb2'.mono hb1.size)
  have hx0 := blk_below hx0 hb2' (blk_lt hx0)
  have hx0 := blk_alloc (blk_alloc hx0 (.cells #[.int .u64 (t0 : Int), .int .u32 (e0 : Int), .int .u32 (m0 : Int), .int .u32 (f0 : Int)] 29)) (.cells #[.int .u64 (t0 : Int), .int .u32 (e0 : Int), .int .u32 (m0 : Int), .int .u32 (f0 : Int)] 30)
  have hg0 := blk_alloc (heap_alloc_new w2 (.cells #[.int .u64 (t0 : Int), .int .u32 (e0 : Int), .int .u32 (m0 : Int), .int .u32 (f0 : Int)] 29)) (.cells #[.int .u64 (t0 : Int), .int .u32 (e0 : Int), .int .u32 (m0 : Int), .int .u32 (f0 : Int)] 30)
  have hr0 := heap_alloc_new (w2.alloc (.cells #[.int .u64 (t0 : Int), .int .u32 (e0 : Int), .int .u32 (m0 : Int), .int .u32 (f0 : Int)] 29)) (.cells #[.int .u64 (t0 : Int), .int .u32 (e0 : Int), .int .u32 (m0 : Int), .int .u32 (f0 : Int)] 30)
  rw [World.size_alloc] at hr0
  have hgw0 : w.heap.size ≤ w2.heap.size := hb2.size
  have hb3 := (hb2.alloc hb2.size (.cells #[.int .u64 (t0 : Int), .int .u32 (e0 : Int), .int .u32 (m0 : Int), .int .u32 (f0 : Int)] 29)).alloc (by have := hb2.size; simp; omega) (.cells #[.int .u64 (t0 : Int), .int .u32 (e0 : Int), .int .u32 (m0 : Int), .int .u32 (f0 : Int)] 30)
  clear hb1 hb2' x00 x01 x02 x03 hb2
  go_wp2_with fail
  generalize (w2.alloc (.cells #[.int .u64 (t0 : Int), .int .u32 (e0 : Int), .int .u32 (m0 : Int), .int .u32 (f0 : Int)] 29)).alloc (.cells #[.int .u64 (t0 : Int), .int .u32 (e0 : Int), .int .u32 (m0 : Int), .int .u32 (f0 : Int)] 30) = w3 at *
  generalize w2.heap.size = g0 at *
  refine (mput_no _ t0 e0 m0 f0 S ht0 he0 hm0 hf0 HNO.out).mono ?_
  rintro r w6 ⟨rfl, hb6'⟩
  have hb6 := hb3.trans (hb6'.mono hb3.size)
  clear hb3 hb6' hg0 hr0
  go_wp2_with fail
  go_ret
  exact ⟨rfl, hb6⟩

set_option maxRecDepth 20000 in
set_option maxHeartbeats 2000000 in
theorem spoiled_ok (w : World) (t0 e0 m0 f0 : Nat) (ht0 : t0 < 18446744073709551616) (he0 : e0 < 4294967296) (hm0 : m0 < 4294967296) (hf0 : f0 < 4294967296) (size : Nat) (a : Nat) (ha : a < 65536) (h1 : 512 ≤ size) (h2 : size ≤ 4096) (hR0 : MRight t0 e0 m0 f0) :
    Calls Try.prog 9 #[.agg #[.int .u64 (t0 : Int), .int .u32 (e0 : Int), .int .u32 (m0 : Int), .int .u32 (f0 : Int)], .int .i64 (size : Int), .int .u16 (a : Int)] w fun r w' => r = .returned (.bool true) ∧ Below w.heap.size w w' := by
  have L0 := Lib.hid (mPut_length t0 e0 m0 f0 size (by omega))
  obtain ⟨K, hK⟩ : ∃ K, a % (8 * size) = K := ⟨_, rfl⟩
  have hKlt : K < 8 * size := by rw [← hK]; exact Nat.mod_lt _ (by omega)
  have hk1 : (a : Int) % (8 * (size : Int)) = (K : Int) := by rw [← hK]; norm_cast
  have HK1 := Lib.hid hk1
  clear hK hk1
  have hx0 := heap_alloc_new w (.cells #[.int .u64 (t0 : Int), .int .u32 (e0 : Int), .int .u32 (m0 : Int), .int .u32 (f0 : Int)] 25)
  have hb0 : Below w.heap.size w (w.alloc (.cells #[.int .u64 (t0 : Int), .int .u32 (e0 : Int), .int .u32 (m0 : Int), .int .u32 (f0 : Int)] 25)) := (Below.refl _ _).alloc (Nat.le_refl _) _
  have HX0 := Lib.hid hx0
  clear hx0
  go_enter Try.func9, Try.ntmps9
  go_wp2_with fail
  refine (awake7 _).mono ?_
  rintro r w1 ⟨rfl, hb1'⟩
  have hb1 := hb0.trans (hb1'.mono hb0.size)
  have hx0 := blk_below HX0.out hb1' (blk_lt HX0.out)
  obtain ⟨⟨x00, x01, x02, x03⟩, _⟩ := cell4 hx0
  clear hb0 hb1' HX0
  go_wp2_with fail
  refine (of_any _ t0 e0 m0 f0).mono ?_
  rintro r w2 ⟨rfl, hb2'⟩
  have hb2 := hb1.trans (hb2'.mono hb1.size)
  have hx0 := blk_below hx0 hb2' (blk_lt hx0)
  have hx0 := blk_alloc (blk_alloc hx0 (.cells #[.int .u64 (t0 : Int), .int .u32 (e0 : Int), .int .u32 (m0 : Int), .int .u32 (f0 : Int)] 29)) (.cells #[.int .u64 (t0 : Int), .int .u32 (e0 : Int), .int .u32 (m0 : Int), .int .u32 (f0 : Int)] 30)
  have hg0 := blk_alloc (heap_alloc_new w2 (.cells #[.int .u64 (t0 : Int), .int .u32 (e0 : Int), .int .u32 (m0 : Int), .int .u32 (f0 : Int)] 29)) (.cells #[.int .u64 (t0 : Int), .int .u32 (e0 : Int), .int .u32 (m0 : Int), .int .u32 (f0 : Int)] 30)
  have hr0 := heap_alloc_new (w2.alloc (.cells #[.int .u64 (t0 : Int), .int .u32 (e0 : Int), .int .u32 (m0 : Int), .int .u32 (f0 : Int)] 29)) (.cells #[.int .u64 (t0 : Int), .int .u32 (e0 : Int), .int .u32 (m0 : Int), .int .u32 (f0 : Int)] 30)
  rw [World.size_alloc] at hr0
  have hgw0 : w.heap.size ≤ w2.heap.size := hb2.size
  have hb3 := (hb2.alloc hb2.size (.cells #[.int .u64 (t0 : Int), .int .u32 (e0 : Int), .int .u32 (m0 : Int), .int .u32 (f0 : Int)] 29)).alloc (by have := hb2.size; simp; omega) (.cells #[.int .u64 (t0 : Int), .int .u32 (e0 : Int), .int .u32 (m0 : Int), .int .u32 (f0 : Int)] 30)
  clear hb1 hb2' x00 x01 x02 x03 hb2
  go_wp2_with fail
  generalize (w2.alloc (.cells #[.int .u64 (t0 : Int), .int .u32 (e0 : Int), .int .u32 (m0 : Int), .int .u32 (f0 : Int)] 29)).alloc (.cells #[.int .u64 (t0 : Int), .int .u32 (e0 : Int), .int .u32 (m0 : Int), .int .u32 (f0 : Int)] 30) = w3 at *
  generalize w2.heap.size = g0 at *
  refine (mput_ok _ t0 e0 m0 f0 size ht0 he0 hm0 hf0 hR0 h1 h2).mono ?_
  rintro r w6 ⟨p0, rfl, hp0, hP0, hb6'⟩
  have hb6 := hb3.trans (hb6'.mono hb3.size)
  have hpw0 : w.heap.size ≤ p0 := Nat.le_trans hb3.size hp0
  clear hb3 hb6' hg0 hr0
  have hk1 := HK1.out
  obtain ⟨J, hJe⟩ : ∃ J, K / 8 = J := ⟨_, rfl⟩
  obtain ⟨R, hRe⟩ : ∃ R, K % 8 = R := ⟨_, rfl⟩
  have hk2 : (K : Int) / 8 = (J : Int) := by omega
  have hk3 : (K : Int) % 8 = (R : Int) := by omega
  have hR8 : R < 8 := by omega
  have hJ : J < size := by omega
  have hJ1 : (J : Int) < (size : Int) := by omega
  have hJ0 : (0 : Int) ≤ (J : Int) := by omega
  have hlen := L0.out
  have hidx : (mPut t0 e0 m0 f0 size)[J]? = some ((mPut t0 e0 m0 f0 size)[J]'(by omega)) := List.getElem?_eq_getElem _
  obtain ⟨u, hu⟩ : ∃ u, (mPut t0 e0 m0 f0 size)[J]'(by omega) = u := ⟨_, rfl⟩
  rw [hu] at hidx
  have hcell := hP0.cell hidx
  have hfr := hP0.frozen J
  have HIDX := Lib.hid hidx
  clear hJe hRe hidx hu hlen
  obtain ⟨v, hv, hvu⟩ := bit_other u R hR8
  have hset := hP0.set_ J v
  have hset' := hset.slN (n := size) (by rw [List.length_set]; exact L0.out) (by omega)
  have hbs := hb6.setCell (p := ⟨p0, J, none⟩) hpw0 (.int .u8 (v.toNat : Int))
  have HV := Lib.hid hv
  clear hv hset
  go_wp2_with fail
  rw [HV.out]
  clear hcell hfr hP0 hb6 hk1 hk2 hk3 hJ1 hJ0
  generalize w6.setCell ⟨p0, J, none⟩ (.int .u8 (v.toNat : Int)) = w7 at *
  obtain ⟨X, hX, hX2⟩ : ∃ X, mGet ((mPut t0 e0 m0 f0 size).set J v) = (none, X) ∧ (X = 11 ∨ X = 14) := by
    rcases mGet_set _ _ (mGet_put t0 e0 m0 f0 size ht0 he0 hm0 hf0 hR0 h1 h2) J u v HIDX.out (Ne.symm hvu) with h | h
    · exact ⟨_, h, .inl rfl⟩
    · exact ⟨_, h, .inr rfl⟩
  have HX := Lib.hid hX
  clear hX
  refine (mget_none _ _ _ _ _ _ X hset' (by omega) HX).mono ?_
  rintro r w8 ⟨rfl, hb8'⟩
  have hbz := (hbs.trans (hb8'.mono hbs.size)).alloc (by have := hb8'.size; have := hbs.size; omega) (.cells #[.int .u64 0, .int .u32 0, .int .u32 0, .int .u32 0] 29)
  clear hbs hb8' hset'
  rcases hX2 with rfl | rfl
  · go_wp2_with fail
    go_ret
    exact ⟨rfl, hbz⟩
  · go_wp2_with fail
    go_ret
    exact ⟨rfl, hbz⟩

set_option maxRecDepth 20000 in
set_option maxHeartbeats 2000000 in
theorem metaSpoiled_law (w : World) (t0 e0 m0 f0 : Nat) (ht0 : t0 < 18446744073709551616) (he0 : e0 < 4294967296) (hm0 : m0 < 4294967296) (hf0 : f0 < 4294967296) (S : Int) (a : Nat) (ha : a < 65536)  :
    Calls Try.prog 9 #[.agg #[.int .u64 (t0 : Int), .int .u32 (e0 : Int), .int .u32 (m0 : Int), .int .u32 (f0 : Int)], .int .i64 S, .int .u16 (a : Int)] w fun r w' => r = .returned (.bool true) ∧ Below w.heap.size w w' := by
  by_cases h0 : MRight t0 e0 m0 f0 ∧ 512 ≤ S ∧ S ≤ 4096
  · obtain ⟨size, rfl⟩ := Int.eq_ofNat_of_zero_le (show 0 ≤ S by omega)
    exact spoiled_ok w t0 e0 m0 f0 ht0 he0 hm0 hf0 size a ha (by omega) (by omega) h0.1
  · exact spoiled_no w t0 e0 m0 f0 ht0 he0 hm0 hf0 S a ha h0

end Go.Proofs.Ytpipgeboddaipaa
