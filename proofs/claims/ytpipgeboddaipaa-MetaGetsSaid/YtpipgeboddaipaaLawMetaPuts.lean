/- Layer 7's statement: MetaPuts. -/
import Derived.Test.YtpipgeboddaipaaLawMetaTurns
import Derived.Test.YtpipgeboddaipaaMetaX
namespace Go.Proofs.Ytpipgeboddaipaa
open Go.RowKit
set_option linter.unusedVariables false
set_option linter.unusedSimpArgs false


/-- What a region over the three blocks and the page holds. -/
def MP (W : World) (gx g0 : Nat) (a b c d : Value) (A : Option Addr) (n cp : Nat) (L : List UInt8) (w : World) : Prop :=
  w.heap[gx]? = some (.cells #[a, b, c, d] 25 (0, 0)) ∧ w.heap[g0]? = some (.cells #[a, b, c, d] 29 (0, 0)) ∧ w.heap[g0 + 1]? = some (.cells #[a, b, c, d] 30 (0, 0)) ∧ Sl w w.heap.size A n cp L ∧ Below W.heap.size W w
theorem MP.below {W : World} {gx g0 : Nat} {a b c d : Value} {A : Option Addr} {n cp : Nat} {L : List UInt8} {w w' : World} (hb : Below w.heap.size w w') (h : MP W gx g0 a b c d A n cp L w) : MP W gx g0 a b c d A n cp L w' :=
  ⟨blk_below h.1 hb (blk_lt h.1), blk_below h.2.1 hb (blk_lt h.2.1), blk_below h.2.2.1 hb (blk_lt h.2.2.1), (h.2.2.2.1.below hb).lt', h.2.2.2.2.trans (hb.mono h.2.2.2.2.size)⟩
theorem MP.drew {W : World} {gx g0 : Nat} {a b c d : Value} {A : Option Addr} {n cp : Nat} {L : List UInt8} {w : World} (h : MP W gx g0 a b c d A n cp L w) : MP W gx g0 a b c d A n cp L w.drew :=
  h.below (Below.refl _ _).drew
def MPS (gx g0 : Nat) (a b c d : Value) (A : Option Addr) (n cp : Nat) (L : List UInt8) (w : World) : Prop :=
  w.cell? ⟨gx, 0, none⟩ = some a ∧ w.cell? ⟨g0, 0, none⟩ = some a ∧ w.cell? ⟨g0, 1, none⟩ = some b ∧ w.cell? ⟨g0, 2, none⟩ = some c ∧ w.cell? ⟨g0, 3, none⟩ = some d ∧ w.cell? ⟨g0 + 1, 0, none⟩ = some a ∧ w.cell? ⟨g0 + 1, 1, none⟩ = some b ∧ w.cell? ⟨g0 + 1, 2, none⟩ = some c ∧ w.cell? ⟨g0 + 1, 3, none⟩ = some d ∧
    (convert 33 9 (.slice A n cp)).run Try.prog w = .ok (.string ⟨L.toArray⟩) w
theorem MP.all {W : World} {gx g0 : Nat} {a b c d : Value} {A : Option Addr} {n cp : Nat} {L : List UInt8} {w : World} (h : MP W gx g0 a b c d A n cp L w) : MPS gx g0 a b c d A n cp L w := by
  obtain ⟨h1, h2, h3, h4, _⟩ := h
  obtain ⟨⟨q0, q1, q2, q3⟩, _⟩ := cell4 h2
  obtain ⟨⟨r0, r1, r2, r3⟩, _⟩ := cell4 h3
  exact ⟨blk_cell h1 0, q0, q1, q2, q3, r0, r1, r2, r3, string_of_sl Try.underlying33 Try.underlying5 Try.underlying9 h4⟩
theorem right_b (w : World) (t e m f : Nat) (b : Bool) (ht : t < 18446744073709551616) (he : e < 4294967296) (hm : m < 4294967296) (hf : f < 4294967296) (h : Hid (decide (MRight t e m f) = b)) :
    Calls Try.prog 14 #[.agg #[.int .u64 (t : Int), .int .u32 (e : Int), .int .u32 (m : Int), .int .u32 (f : Int)]] w fun r w' => r = .returned (.bool b) ∧ Below w.heap.size w w' := by
  have := right_any w t e m f ht he hm hf
  rwa [h.out] at this
theorem refright_b (w : World) (t e m f : Nat) (b : Bool) (ht : t < 18446744073709551616) (he : e < 4294967296) (hm : m < 4294967296) (hf : f < 4294967296) (h : Hid (decide (MRight t e m f) = b)) :
    Calls Try.prog 15 #[.agg #[.int .u64 (t : Int), .int .u32 (e : Int), .int .u32 (m : Int), .int .u32 (f : Int)]] w fun r w' => r = .returned (.bool b) ∧ Below w.heap.size w w' := by
  have := refright_any w t e m f ht he hm hf
  rwa [h.out] at this

set_option maxRecDepth 20000 in
set_option maxHeartbeats 2000000 in
theorem puts_no (w : World) (t0 e0 m0 f0 : Nat) (ht0 : t0 < 18446744073709551616) (he0 : e0 < 4294967296) (hm0 : m0 < 4294967296) (hf0 : f0 < 4294967296) (S : Int)  (hno : ¬ (MRight t0 e0 m0 f0 ∧ 512 ≤ S ∧ S ≤ 4096)) :
    Calls Try.prog 3 #[.agg #[.int .u64 (t0 : Int), .int .u32 (e0 : Int), .int .u32 (m0 : Int), .int .u32 (f0 : Int)], .int .i64 S] w fun r w' => r = .returned (.bool true) ∧ Below w.heap.size w w' := by
  have HNO := Lib.hid hno
  obtain ⟨rb, hrb⟩ : ∃ rb, decide (MRight t0 e0 m0 f0) = rb := ⟨_, rfl⟩
  have HRB := Lib.hid hrb
  clear hno hrb
  have hx0 := heap_alloc_new w (.cells #[.int .u64 (t0 : Int), .int .u32 (e0 : Int), .int .u32 (m0 : Int), .int .u32 (f0 : Int)] 25)
  have hb0 : Below w.heap.size w (w.alloc (.cells #[.int .u64 (t0 : Int), .int .u32 (e0 : Int), .int .u32 (m0 : Int), .int .u32 (f0 : Int)] 25)) := (Below.refl _ _).alloc (Nat.le_refl _) _
  have HX0 := Lib.hid hx0
  clear hx0
  go_enter Try.func3, Try.ntmps3
  go_wp2_with fail
  refine (awake7 _).mono ?_
  rintro r w1 ⟨rfl, hb1'⟩
  have hb1 := hb0.trans (hb1'.mono hb0.size)
  have hx0 := blk_below HX0.out hb1' (blk_lt HX0.out)
  obtain ⟨⟨x00, x01, x02, x03⟩, _⟩ := cell4 hx0
  clear hb0 hb1' HX0
  go_wp2_with fail
  refine (of_any _ t0 e0 m0 f0).mono ?_
  rintro r w2 ⟨rfl, hb2'⟩
  have hb2 := hb1.trans (hb2'.mono hb1.size)
  have hx0 := blk_below hx0 hb2' (blk_lt hx0)
  have hx0 := blk_alloc (blk_alloc hx0 (.cells #[.int .u64 (t0 : Int), .int .u32 (e0 : Int), .int .u32 (m0 : Int), .int .u32 (f0 : Int)] 29)) (.cells #[.int .u64 (t0 : Int), .int .u32 (e0 : Int), .int .u32 (m0 : Int), .int .u32 (f0 : Int)] 30)
  have hg0 := blk_alloc (heap_alloc_new w2 (.cells #[.int .u64 (t0 : Int), .int .u32 (e0 : Int), .int .u32 (m0 : Int), .int .u32 (f0 : Int)] 29)) (.cells #[.int .u64 (t0 : Int), .int .u32 (e0 : Int), .int .u32 (m0 : Int), .int .u32 (f0 : Int)] 30)
  have hr0 := heap_alloc_new (w2.alloc (.cells #[.int .u64 (t0 : Int), .int .u32 (e0 : Int), .int .u32 (m0 : Int), .int .u32 (f0 : Int)] 29)) (.cells #[.int .u64 (t0 : Int), .int .u32 (e0 : Int), .int .u32 (m0 : Int), .int .u32 (f0 : Int)] 30)
  rw [World.size_alloc] at hr0
  have hgw0 : w.heap.size ≤ w2.heap.size := hb2.size
  have hb3 := (hb2.alloc hb2.size (.cells #[.int .u64 (t0 : Int), .int .u32 (e0 : Int), .int .u32 (m0 : Int), .int .u32 (f0 : Int)] 29)).alloc (by have := hb2.size; simp; omega) (.cells #[.int .u64 (t0 : Int), .int .u32 (e0 : Int), .int .u32 (m0 : Int), .int .u32 (f0 : Int)] 30)
  clear hb1 hb2' x00 x01 x02 x03 hb2
  go_wp2_with fail
  generalize (w2.alloc (.cells #[.int .u64 (t0 : Int), .int .u32 (e0 : Int), .int .u32 (m0 : Int), .int .u32 (f0 : Int)] 29)).alloc (.cells #[.int .u64 (t0 : Int), .int .u32 (e0 : Int), .int .u32 (m0 : Int), .int .u32 (f0 : Int)] 30) = w3 at *
  generalize w2.heap.size = g0 at *
  refine (mput_no _ t0 e0 m0 f0 S ht0 he0 hm0 hf0 HNO.out).mono ?_
  rintro r w6 ⟨rfl, hb6'⟩
  have hm6 : MP w w.heap.size g0 (.int .u64 (t0 : Int)) (.int .u32 (e0 : Int)) (.int .u32 (m0 : Int)) (.int .u32 (f0 : Int)) none 0 0 [] w6 := MP.below hb6' ⟨hx0, hg0, hr0, Sl.nil_ _ _, hb3⟩
  obtain ⟨_, _, _, _, _, c0, c1, c2, c3, _⟩ := hm6.all
  clear hb6' hg0 hr0 hb3 hx0
  go_wp2_with fail
  refine (rput_no _ t0 e0 m0 f0 S ht0 he0 hm0 hf0 HNO.out).mono ?_
  rintro r w7 ⟨rfl, hb7'⟩
  have hm7 := MP.below hb7' hm6
  have hm7d := hm7.drew
  clear hm6 hb7' c0 c1 c2 c3
  have hT0 : (0 : Int) ≤ (t0 : Int) := by omega
  have hT1 : (t0 : Int) ≤ 18446744073709551615 := by omega
  have hw64 : IntKind.i64.wrap ((t0 : Int) % 2) = (t0 : Int) % 2 := IntWalk.i64_in _ (by omega)
  have htm : ((t0 : Int)).tmod 2 = (t0 : Int) % 2 := Int.tmod_eq_emod_of_nonneg (by omega)
  go_wp2_with fail
  go_region_held3 (fun w' => w'.cell? ⟨w.heap.size, 0, none⟩ = some (.int .u64 (t0 : Int)) ∧ w'.cell? ⟨g0, 0, none⟩ = some (.int .u64 (t0 : Int)) ∧ w'.cell? ⟨g0, 1, none⟩ = some (.int .u32 (e0 : Int)) ∧ w'.cell? ⟨g0, 2, none⟩ = some (.int .u32 (m0 : Int)) ∧ w'.cell? ⟨g0, 3, none⟩ = some (.int .u32 (f0 : Int)) ∧ w'.cell? ⟨g0 + 1, 0, none⟩ = some (.int .u64 (t0 : Int)) ∧ w'.cell? ⟨g0 + 1, 1, none⟩ = some (.int .u32 (e0 : Int)) ∧ w'.cell? ⟨g0 + 1, 2, none⟩ = some (.int .u32 (m0 : Int)) ∧ w'.cell? ⟨g0 + 1, 3, none⟩ = some (.int .u32 (f0 : Int)) ∧ (convert 33 9 (.slice none 0 0)).run Try.prog w' = .ok (.string ⟨[].toArray⟩) w') (exact MP.all (by assumption)) (first | (go_at_call 14; refine (right_b _ t0 e0 m0 f0 rb ht0 he0 hm0 hf0 HRB).mono ?_; rintro r wa ⟨rfl, hba⟩; have hma := MP.below hba (by assumption)) | (go_at_call 15; refine (refright_b _ t0 e0 m0 f0 rb ht0 he0 hm0 hf0 HRB).mono ?_; rintro r wa ⟨rfl, hba⟩; have hmb := MP.below hba (by assumption)) | (go_at_call 16; refine (slot_is _ (t0 : Int) ((t0 : Int) % 2) hT0 hT1 (Lib.hid rfl)).mono ?_; rintro r wb ⟨rfl, rfl⟩))
  have hbz := hmb.2.2.2.2
  clear hmb hma hm7 hm7d
  go_wp2_with fail
  go_ret
  exact ⟨rfl, hbz⟩

set_option maxRecDepth 20000 in
set_option maxHeartbeats 2000000 in
theorem puts_ok (w : World) (t0 e0 m0 f0 : Nat) (ht0 : t0 < 18446744073709551616) (he0 : e0 < 4294967296) (hm0 : m0 < 4294967296) (hf0 : f0 < 4294967296) (size : Nat)  (h1 : 512 ≤ size) (h2 : size ≤ 4096) (hR0 : MRight t0 e0 m0 f0) :
    Calls Try.prog 3 #[.agg #[.int .u64 (t0 : Int), .int .u32 (e0 : Int), .int .u32 (m0 : Int), .int .u32 (f0 : Int)], .int .i64 (size : Int)] w fun r w' => r = .returned (.bool true) ∧ Below w.heap.size w w' := by
  have L0 := Lib.hid (mPut_length t0 e0 m0 f0 size (by omega))
  have MG := Lib.hid (mGet_put t0 e0 m0 f0 size ht0 he0 hm0 hf0 hR0 h1 h2)
  have HRB : Hid (decide (MRight t0 e0 m0 f0) = true) := Lib.hid (decide_eq_true hR0)
  obtain ⟨rb, hrb⟩ : ∃ rb, rb = true := ⟨true, rfl⟩
  rw [← hrb] at HRB
  clear hrb
  have hx0 := heap_alloc_new w (.cells #[.int .u64 (t0 : Int), .int .u32 (e0 : Int), .int .u32 (m0 : Int), .int .u32 (f0 : Int)] 25)
  have hb0 : Below w.heap.size w (w.alloc (.cells #[.int .u64 (t0 : Int), .int .u32 (e0 : Int), .int .u32 (m0 : Int), .int .u32 (f0 : Int)] 25)) := (Below.refl _ _).alloc (Nat.le_refl _) _
  have HX0 := Lib.hid hx0
  clear hx0
  go_enter Try.func3, Try.ntmps3
  go_wp2_with fail
  refine (awake7 _).mono ?_
  rintro r w1 ⟨rfl, hb1'⟩
  have hb1 := hb0.trans (hb1'.mono hb0.size)
  have hx0 := blk_below HX0.out hb1' (blk_lt HX0.out)
  obtain ⟨⟨x00, x01, x02, x03⟩, _⟩ := cell4 hx0
  clear hb0 hb1' HX0
  go_wp2_with fail
  refine (of_any _ t0 e0 m0 f0).mono ?_
  rintro r w2 ⟨rfl, hb2'⟩
  have hb2 := hb1.trans (hb2'.mono hb1.size)
  have hx0 := blk_below hx0 hb2' (blk_lt hx0)
  have hx0 := blk_alloc (blk_alloc hx0 (.cells #[.int .u64 (t0 : Int), .int .u32 (e0 : Int), .int .u32 (m0 : Int), .int .u32 (f0 : Int)] 29)) (.cells #[.int .u64 (t0 : Int), .int .u32 (e0 : Int), .int .u32 (m0 : Int), .int .u32 (f0 : Int)] 30)
  have hg0 := blk_alloc (heap_alloc_new w2 (.cells #[.int .u64 (t0 : Int), .int .u32 (e0 : Int), .int .u32 (m0 : Int), .int .u32 (f0 : Int)] 29)) (.cells #[.int .u64 (t0 : Int), .int .u32 (e0 : Int), .int .u32 (m0 : Int), .int .u32 (f0 : Int)] 30)
  have hr0 := heap_alloc_new (w2.alloc (.cells #[.int .u64 (t0 : Int), .int .u32 (e0 : Int), .int .u32 (m0 : Int), .int .u32 (f0 : Int)] 29)) (.cells #[.int .u64 (t0 : Int), .int .u32 (e0 : Int), .int .u32 (m0 : Int), .int .u32 (f0 : Int)] 30)
  rw [World.size_alloc] at hr0
  have hgw0 : w.heap.size ≤ w2.heap.size := hb2.size
  have hb3 := (hb2.alloc hb2.size (.cells #[.int .u64 (t0 : Int), .int .u32 (e0 : Int), .int .u32 (m0 : Int), .int .u32 (f0 : Int)] 29)).alloc (by have := hb2.size; simp; omega) (.cells #[.int .u64 (t0 : Int), .int .u32 (e0 : Int), .int .u32 (m0 : Int), .int .u32 (f0 : Int)] 30)
  clear hb1 hb2' x00 x01 x02 x03 hb2
  go_wp2_with fail
  generalize (w2.alloc (.cells #[.int .u64 (t0 : Int), .int .u32 (e0 : Int), .int .u32 (m0 : Int), .int .u32 (f0 : Int)] 29)).alloc (.cells #[.int .u64 (t0 : Int), .int .u32 (e0 : Int), .int .u32 (m0 : Int), .int .u32 (f0 : Int)] 30) = w3 at *
  generalize w2.heap.size = g0 at *
  refine (mput_ok _ t0 e0 m0 f0 size ht0 he0 hm0 hf0 hR0 h1 h2).mono ?_
  rintro r w6 ⟨p0, rfl, hp0, hP0, hb6'⟩
  have hm6 : MP w w.heap.size g0 (.int .u64 (t0 : Int)) (.int .u32 (e0 : Int)) (.int .u32 (m0 : Int)) (.int .u32 (f0 : Int)) (some ⟨p0, 0, none⟩) size size (mPut t0 e0 m0 f0 size) w6 :=
    ⟨blk_below hx0 hb6' (blk_lt hx0), blk_below hg0 hb6' (blk_lt hg0), blk_below hr0 hb6' (blk_lt hr0), hP0.slN L0.out (by omega), hb3.trans (hb6'.mono hb3.size)⟩
  obtain ⟨_, _, _, _, _, c0, c1, c2, c3, _⟩ := hm6.all
  clear hb6' hg0 hr0 hb3 hx0 hP0
  go_wp2_with fail
  refine (rput_ok _ t0 e0 m0 f0 size ht0 he0 hm0 hf0 hR0 h1 h2).mono ?_
  rintro r w7 ⟨rfl, hb7'⟩
  obtain ⟨LL, hLL⟩ : ∃ LL, mPut t0 e0 m0 f0 size = LL := ⟨_, rfl⟩
  rw [hLL] at hm6 MG ⊢
  have hm7 := MP.below hb7' hm6
  have hm7d := hm7.drew
  clear hm6 hb7' c0 c1 c2 c3 L0 hLL
  have hT0 : (0 : Int) ≤ (t0 : Int) := by omega
  have hT1 : (t0 : Int) ≤ 18446744073709551615 := by omega
  have hw64 : IntKind.i64.wrap ((t0 : Int) % 2) = (t0 : Int) % 2 := IntWalk.i64_in _ (by omega)
  have htm : ((t0 : Int)).tmod 2 = (t0 : Int) % 2 := Int.tmod_eq_emod_of_nonneg (by omega)
  go_wp2_with fail
  go_region_held3 (fun w' => w'.cell? ⟨w.heap.size, 0, none⟩ = some (.int .u64 (t0 : Int)) ∧ w'.cell? ⟨g0, 0, none⟩ = some (.int .u64 (t0 : Int)) ∧ w'.cell? ⟨g0, 1, none⟩ = some (.int .u32 (e0 : Int)) ∧ w'.cell? ⟨g0, 2, none⟩ = some (.int .u32 (m0 : Int)) ∧ w'.cell? ⟨g0, 3, none⟩ = some (.int .u32 (f0 : Int)) ∧ w'.cell? ⟨g0 + 1, 0, none⟩ = some (.int .u64 (t0 : Int)) ∧ w'.cell? ⟨g0 + 1, 1, none⟩ = some (.int .u32 (e0 : Int)) ∧ w'.cell? ⟨g0 + 1, 2, none⟩ = some (.int .u32 (m0 : Int)) ∧ w'.cell? ⟨g0 + 1, 3, none⟩ = some (.int .u32 (f0 : Int)) ∧ (convert 33 9 (.slice (some ⟨p0, 0, none⟩) size size)).run Try.prog w' = .ok (.string ⟨LL.toArray⟩) w') (exact MP.all (by assumption)) (first | (go_at_call 14; refine (right_b _ t0 e0 m0 f0 rb ht0 he0 hm0 hf0 HRB).mono ?_; rintro r wa ⟨rfl, hba⟩; have hma := MP.below hba (by assumption)) | (go_at_call 15; refine (refright_b _ t0 e0 m0 f0 rb ht0 he0 hm0 hf0 HRB).mono ?_; rintro r wa ⟨rfl, hba⟩; have hmb := MP.below hba (by assumption)) | (go_at_call 16; refine (slot_is _ (t0 : Int) ((t0 : Int) % 2) hT0 hT1 (Lib.hid rfl)).mono ?_; rintro r wb ⟨rfl, rfl⟩))
  obtain ⟨hq1, hq2, hq3, hq4, hq5⟩ := hmb
  clear hma hm7 hm7d hq1 hq3
  go_wp2_with fail
  refine (mget_is _ _ _ _ _ _ t0 e0 m0 f0 hq4 (by omega) MG).mono ?_
  rintro r w9 ⟨rfl, hb9'⟩
  have hb9 := hq5.trans (hb9'.mono hq5.size)
  have hbz := hb9.alloc hb9.size (.cells #[.int .u64 (t0 : Int), .int .u32 (e0 : Int), .int .u32 (m0 : Int), .int .u32 (f0 : Int)] 29)
  obtain ⟨⟨a00, a01, a02, a03⟩, _⟩ := cell4 (blk_alloc (blk_below hq2 hb9' (blk_lt hq2)) (.cells #[.int .u64 (t0 : Int), .int .u32 (e0 : Int), .int .u32 (m0 : Int), .int .u32 (f0 : Int)] 29))
  clear hb9 hb9' hq2 hq4 hq5
  go_wp2_with fail
  go_ret
  exact ⟨rfl, hbz⟩

set_option maxRecDepth 20000 in
set_option maxHeartbeats 2000000 in
theorem metaPuts_law (w : World) (t0 e0 m0 f0 : Nat) (ht0 : t0 < 18446744073709551616) (he0 : e0 < 4294967296) (hm0 : m0 < 4294967296) (hf0 : f0 < 4294967296) (S : Int)   :
    Calls Try.prog 3 #[.agg #[.int .u64 (t0 : Int), .int .u32 (e0 : Int), .int .u32 (m0 : Int), .int .u32 (f0 : Int)], .int .i64 S] w fun r w' => r = .returned (.bool true) ∧ Below w.heap.size w w' := by
  by_cases h0 : MRight t0 e0 m0 f0 ∧ 512 ≤ S ∧ S ≤ 4096
  · obtain ⟨size, rfl⟩ := Int.eq_ofNat_of_zero_le (show 0 ≤ S by omega)
    exact puts_ok w t0 e0 m0 f0 ht0 he0 hm0 hf0 size (by omega) (by omega) h0.1
  · exact puts_no w t0 e0 m0 f0 ht0 he0 hm0 hf0 S h0

end Go.Proofs.Ytpipgeboddaipaa
