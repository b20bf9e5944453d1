/- Package meta: Put of what may not be; what Get tells, plainly. -/
import Derived.Test.YtpipgeboddaipaaMetaP
namespace Go.Proofs.Ytpipgeboddaipaa
open Go.RowKit
set_option linter.unusedVariables false
set_option linter.unusedSimpArgs false

set_option maxRecDepth 20000 in
theorem mput_no (w : World) (t e m f : Nat) (size : Int) (ht : t < 18446744073709551616) (he : e < 4294967296) (hm : m < 4294967296) (hf : f < 4294967296) (hno : ¬ (MRight t e m f ∧ 512 ≤ size ∧ size ≤ 4096)) :
    Calls Try.prog 12 #[.agg #[.int .u64 (t : Int), .int .u32 (e : Int), .int .u32 (m : Int), .int .u32 (f : Int)], .int .i64 size] w fun r w' => r = .returned (.tuple #[.slice none 0 0, .int .i64 1]) ∧ Below w.heap.size w w' := by
  have hright := right_any (w.alloc (.cells #[.int .u64 (t : Int), .int .u32 (e : Int), .int .u32 (m : Int), .int .u32 (f : Int)] 29)) t e m f ht he hm hf
  have hb0 : Below w.heap.size w (w.alloc (.cells #[.int .u64 (t : Int), .int .u32 (e : Int), .int .u32 (m : Int), .int .u32 (f : Int)] 29)) := (Below.refl _ _).alloc (Nat.le_refl _) _
  by_cases hR : MRight t e m f
  · rw [decide_eq_true hR] at hright
    by_cases h1 : size < 512
    · have d1 : decide (size < 512) = true := decide_eq_true h1
      clear hno
      go_enter Try.func12, Try.ntmps12
      go_wp2_with (first | (go_at_call 14; refine hright.mono ?_; rintro r w1 ⟨rfl, hb1'⟩))
      go_ret2
      exact ⟨rfl, hb0.trans (hb1'.mono hb0.size)⟩
    · have h2 : 4096 < size := by
        have : ¬ (512 ≤ size ∧ size ≤ 4096) := fun h => hno ⟨hR, h⟩
        omega
      have d1 : decide (size < 512) = false := decide_eq_false h1
      have d2 : decide (4096 < size) = true := decide_eq_true h2
      clear hno
      go_enter Try.func12, Try.ntmps12
      go_wp2_with (first | (go_at_call 14; refine hright.mono ?_; rintro r w1 ⟨rfl, hb1'⟩))
      go_ret2
      exact ⟨rfl, hb0.trans (hb1'.mono hb0.size)⟩
  · rw [decide_eq_false hR] at hright
    clear hno hR
    go_enter Try.func12, Try.ntmps12
    go_wp2_with (first | (go_at_call 14; refine hright.mono ?_; rintro r w1 ⟨rfl, hb1'⟩))
    go_ret2
    exact ⟨rfl, hb0.trans (hb1'.mono hb0.size)⟩

/-- A number that stands in bytes. -/
def numAt (l : List UInt8) (at_ sz : Nat) : Nat := be ((l.drop at_).take sz)
/-- What a page tells: 0 and its meta, or the error. -/
def mGet (l : List UInt8) : Option (Nat × Nat × Nat × Nat) × Int :=
  if ¬ (512 ≤ l.length ∧ l.length ≤ 4096) then (none, 11)
  else if ¬ (l.take 4 = [82, 85, 66, 49] ∧ numAt l 4 4 = l.length ∧ l.drop 32 = List.replicate (l.length - 32) 0) then (none, 11)
  else if numAt l 28 4 ≠ crcOf (l.take 28) then (none, 14)
  else if ¬ MRight (numAt l 8 8) (numAt l 16 4) (numAt l 20 4) (numAt l 24 4) then (none, 11)
  else (some (numAt l 8 8, numAt l 16 4, numAt l 20 4, numAt l 24 4), 0)
theorem take_nn (l : List UInt8) (n : Nat) (h : n ≤ l.length) : takeL l 0 n = l.take n ∧ takeR l 0 n = l.drop n ∧ takeE l 0 n = 0 := by
  have h' : ¬ l.length < n := by omega
  simp [takeL, takeR, takeE, h']
def metaV (o : Option (Nat × Nat × Nat × Nat)) : Value := match o with
  | some (t, e, m, f) => .agg #[.int .u64 (t : Int), .int .u32 (e : Int), .int .u32 (m : Int), .int .u32 (f : Int)]
  | none => .agg #[.int .u64 0, .int .u32 0, .int .u32 0, .int .u32 0]

set_option maxRecDepth 20000 in
theorem mget_len (w : World) (B : Nat) (A : Option Addr) (n c : Nat) (l : List UInt8) (h : Sl w B A n c l) (hn : n ≤ 140737488355328) (hl : ¬ (512 ≤ n ∧ n ≤ 4096)) :
    Calls Try.prog 17 #[.slice A n c] w fun r w' => r = .returned (.tuple #[metaV (mGet l).1, .int .i64 (mGet l).2]) ∧ Below w.heap.size w w' := by
  have hm : mGet l = (none, 11) := by
    unfold mGet
    rw [if_pos (by rw [h.len]; exact hl)]
  rw [hm]
  clear hm h
  by_cases h1 : n < 512
  · have d1 : decide ((n : Int) < 512) = true := decide_eq_true (by omega)
    clear hl
    go_enter Try.func17, Try.ntmps17
    go_wp2
    exact bodyPost_ret (v := .tuple #[.agg #[.int .u64 0, .int .u32 0, .int .u32 0, .int .u32 0], .int .i64 11]) (by simp [results, Try.results17, go_sem]) rfl ⟨rfl, (Below.refl _ _).alloc (Nat.le_refl _) _⟩
  · have d1 : decide ((n : Int) < 512) = false := decide_eq_false (by omega)
    have d2 : decide (4096 < (n : Int)) = true := decide_eq_true (by omega)
    clear hl
    go_enter Try.func17, Try.ntmps17
    go_wp2
    exact bodyPost_ret (v := .tuple #[.agg #[.int .u64 0, .int .u32 0, .int .u32 0, .int .u32 0], .int .i64 11]) (by simp [results, Try.results17, go_sem]) rfl ⟨rfl, (Below.refl _ _).alloc (Nat.le_refl _) _⟩

end Go.Proofs.Ytpipgeboddaipaa
