/- Layer 7's reference: num; the statements' own helpers: same. -/
import Derived.Test.YtpipgeboddaipaaMetaU
namespace Go.Proofs.Ytpipgeboddaipaa
open Go.RowKit
set_option linter.unusedVariables false
set_option linter.unusedSimpArgs false

theorem refread_k (w : World) (s : ByteArray) (l : List UInt8) (S : Int) (hs : Hid (s = st l)) (h1 : 1 ≤ S) (h8 : S ≤ 8) (h : S ≤ l.length) (hl : l.length ≤ 140737488355328) :
    Calls Try.prog 41 #[.agg #[.string s, .int .i64 0], .int .i64 S] w fun e w' => e = .returned (.tuple #[.agg #[.string (st (l.drop S.toNat)), .int .i64 0], .int .u64 (be (l.take S.toNat) : Nat)]) ∧ Below w.heap.size w w' := by
  rw [hs.out]
  obtain ⟨sz, rfl⟩ := Int.eq_ofNat_of_zero_le (show 0 ≤ S by omega)
  exact refread_ok w l sz (by omega) (by omega) (by omega) hl

/-- num: a number that stands somewhere -/
theorem rnumat_any (w : World) (l : List UInt8) (p z : Nat) (h1 : 1 ≤ z) (h8 : z ≤ 8) (h : p + z ≤ l.length) (hl : l.length ≤ 140737488355328) :
    Calls Try.prog 35 #[.string (st l), .int .i64 (p : Int), .int .i64 (z : Int)] w fun e w' => e = .returned (.int .u64 (numAt l p z : Nat)) ∧ Below w.heap.size w w' := by
  obtain ⟨s, hs⟩ : ∃ s, st l = s := ⟨_, rfl⟩
  have hsz : s.size = l.length := by rw [← hs, st_size]
  have hn0 : (0 : Int) ≤ (p : Int) := by omega
  have hn1 : (p : Int) ≤ (s.size : Int) := by omega
  have hsm : s.size ≤ 140737488355328 := by omega
  have e1 : s.extract p s.size = st (l.drop p) := by rw [← hs, st_extract, st_size, List.take_of_length_le (Nat.le_refl _)]
  rw [hs]
  have E1 := Lib.hid e1
  clear hs hsz e1
  go_enter Try.func35, Try.ntmps35
  go_wp2_with fail
  refine (refread_k _ _ (l.drop p) _ E1 (by omega) (by omega) (by rw [List.length_drop]; omega) (by rw [List.length_drop]; omega)).mono ?_
  rintro r w1 ⟨rfl, hb1⟩
  rw [Int.toNat_natCast]
  go_wp2_with fail
  go_ret
  exact ⟨rfl, hb1.alloc hb1.size _⟩
theorem rnumat_i (w : World) (l : List UInt8) (p z : Int) (h1 : 1 ≤ z) (h8 : z ≤ 8) (h0 : 0 ≤ p) (h : p + z ≤ l.length) (hl : l.length ≤ 140737488355328) :
    Calls Try.prog 35 #[.string (st l), .int .i64 p, .int .i64 z] w fun e w' => e = .returned (.int .u64 (numAt l p.toNat z.toNat : Nat)) ∧ Below w.heap.size w w' := by
  obtain ⟨q, rfl⟩ := Int.eq_ofNat_of_zero_le h0
  obtain ⟨y, rfl⟩ := Int.eq_ofNat_of_zero_le (show 0 ≤ z by omega)
  exact rnumat_any w l q y (by omega) (by omega) (by omega) hl

set_option maxHeartbeats 1000000 in
theorem same_yes (w : World) (t e m f : Nat) :
    Calls Try.prog 20 #[.agg #[.int .u64 (t : Int), .int .u32 (e : Int), .int .u32 (m : Int), .int .u32 (f : Int)], .agg #[.int .u64 (t : Int), .int .u32 (e : Int), .int .u32 (m : Int), .int .u32 (f : Int)]] w fun r w' => r = .returned (.bool true) ∧ Below w.heap.size w w' := by
  have hb0 : Below w.heap.size w ((w.alloc (.cells #[.int .u64 (t : Int), .int .u32 (e : Int), .int .u32 (m : Int), .int .u32 (f : Int)] 29)).alloc (.cells #[.int .u64 (t : Int), .int .u32 (e : Int), .int .u32 (m : Int), .int .u32 (f : Int)] 30)) := ((Below.refl _ _).alloc (Nat.le_refl _) _).alloc (by simp) _
  go_enter Try.func20, Try.ntmps20
  go_wp2
  go_ret
  exact ⟨rfl, hb0⟩

end Go.Proofs.Ytpipgeboddaipaa
