/- The references' numbers as bytes (layer 1): Num. -/
import Derived.Test.YthmkmojlnfkfjaaOctRn
namespace Go.Proofs.Ythmkmojlnfkfjaa
open Go.RowKit
set_option linter.unusedVariables false
set_option linter.unusedSimpArgs false

/-- Bytes as a string. -/
abbrev st (l : List UInt8) : ByteArray := ⟨l.toArray⟩

theorem numB_succ (x k : Nat) : numB x (k + 1) = UInt8.ofNat (x / 2 ^ (8 * k)) :: numB x k := by
  apply List.ext_getElem?
  intro i
  cases i with
  | zero => simp [numB, List.getElem?_range]
  | succ i =>
    simp only [numB, List.getElem?_cons_succ, List.getElem?_map]
    by_cases h : i < k
    · rw [List.getElem?_range (by omega), List.getElem?_range h]
      simp only [Option.map_some]
      congr 4
      omega
    · rw [List.getElem?_eq_none (by simp; omega), List.getElem?_eq_none (by simp; omega)]
      rfl

theorem string_one {P : Program} {src dst : TypeId} (hs : P.underlying src = some (.slice 5)) (he : P.underlying 5 = some (.int .u8)) (hd : P.underlying dst = some .string) (w : World) (n : Int) :
    (convert src dst (.slice (some ⟨w.heap.size, 0, none⟩) 1 1)).run P (w.alloc (.cells #[.int .u8 n] 5)) = .ok (.string ⟨#[UInt8.ofNat n.toNat]⟩) (w.alloc (.cells #[.int .u8 n] 5)) := by
  have hl : (loadCells ⟨w.heap.size, 0, none⟩ 1).run P (w.alloc (.cells #[.int .u8 n] 5)) = .ok (([n] : List Int).map (Value.int .u8)).toArray (w.alloc (.cells #[.int .u8 n] 5)) :=
    run_loadCells_list (P := P) _ ⟨w.heap.size, 0, none⟩ (([n] : List Int).map (Value.int .u8)) (cell_one_new w (.int .u8 n) 5)
  rw [run_convert_bytes_string _ src dst 5 _ 1 1 hs he hd, run_bytesToString _ _ 1 1 _ hl]
  rfl

theorem nat_quo (x k : Nat) : ((x : Int) / 2 ^ (8 * k)) = ((x / 2 ^ (8 * k) : Nat) : Int) := by simp
theorem ref_quo (x k : Nat) (hx : x < 18446744073709551616) : IntKind.u64.wrap (((x : Int) / 2 ^ (8 * k)).tdiv 256) = ((x / 2 ^ (8 * (k + 1)) : Nat) : Int) := by
  rw [nat_quo, show (256 : Int) = ((256 : Nat) : Int) from rfl, IntWalk.up_tdiv rfl rfl, Nat.div_div_eq_div_mul]
  rw [show 2 ^ (8 * k) * 256 = 2 ^ (8 * (k + 1)) from by rw [Nat.mul_add, Nat.pow_add]]
  refine IntWalk.u64_in _ ⟨Int.natCast_nonneg _, ?_⟩
  have := Nat.div_le_self x (2 ^ (8 * (k + 1)))
  omega
theorem ref_byte (x k : Nat) : UInt8.ofNat ((((x : Int) / 2 ^ (8 * k)).tmod 256 % 256).toNat) = UInt8.ofNat (x / 2 ^ (8 * k)) := by
  rw [nat_quo, show (256 : Int) = ((256 : Nat) : Int) from rfl, IntWalk.up_tmod rfl rfl, IntWalk.up_mod rfl rfl]
  simp only [Int.toNat_natCast]
  apply UInt8.toNat_inj.1
  simp [UInt8.toNat_ofNat']
theorem st_append (l m : List UInt8) : st l ++ st m = st (l ++ m) := by
  apply ByteArray.ext
  simp [ByteArray.data_append]

theorem refnum_any (w : World) (x : Nat) (hx : x < 18446744073709551616) (sz : Nat) (h1 : 1 ≤ sz) (h8 : sz ≤ 8) :
    Calls Try.prog 36 #[.int .u64 (x : Int), .int .i64 (sz : Int)] w fun e w' => e = .returned (.string (st (numB x sz))) ∧ Below w.heap.size w w' := by
  have h1b : decide ((sz : Int) < 1) = false := decide_eq_false (by omega)
  have h8b : decide (8 < (sz : Int)) = false := decide_eq_false (by omega)
  have hcv := fun (w : World) (n : Int) => string_one (P := Try.prog) Try.underlying35 Try.underlying5 Try.underlying9 w n
  go_enter Try.func36, Try.ntmps36
  go_wp2
  go_loopw [0, 5, 6] (fun y s i wr => ∃ k : Nat, k ≤ sz ∧ i = .int .i64 k ∧ y = .int .u64 (x / 2 ^ (8 * k) : Nat) ∧ s = .string (st (numB x k)) ∧ Below w.heap.size w wr) (fun _ _ i _ => sz - (intOf i).toNat)
  case atStart => exact ⟨0, Nat.zero_le _, rfl, by simp, rfl, Below.refl _ _⟩
  case round =>
    obtain ⟨k, hk, rfl, rfl, rfl, hbw⟩ := hrel
    by_cases hlt : k < sz
    · have hnl : (numB x k).length ≤ 8 := by rw [numB_length]; omega
      go_wp2
      refine ⟨⟨k + 1, by omega, by go_num, by rw [ref_quo x k hx], ?_, hbw.alloc hbw.size _⟩, by simp [intOf]; omega⟩
      rw [ref_byte, numB_succ]
      exact congrArg Value.string (st_append [UInt8.ofNat (x / 2 ^ (8 * k))] (numB x k))
    · have hks : k = sz := by omega
      subst hks
      go_wp2
      go_ret
      exact ⟨rfl, hbw⟩

theorem refnum_i (w : World) (X S : Int) (hX : 0 ≤ X) (hX' : X ≤ 18446744073709551615) (h1 : 1 ≤ S) (h8 : S ≤ 8) :
    Calls Try.prog 36 #[.int .u64 X, .int .i64 S] w fun e w' => ∃ s : ByteArray, e = .returned (.string s) ∧ Hid (s = st (numB X.toNat S.toNat)) ∧ S.toNat ≤ s.size ∧ s.size ≤ S.toNat ∧ Below w.heap.size w w' := by
  obtain ⟨x, rfl⟩ := Int.eq_ofNat_of_zero_le hX
  obtain ⟨s, rfl⟩ := Int.eq_ofNat_of_zero_le (show 0 ≤ S by omega)
  refine (refnum_any w x (by omega) s (by omega) (by omega)).mono ?_
  rintro e w' ⟨rfl, hb⟩
  have hsz : (st (numB x s)).size = s := by simp [ByteArray.size, numB_length]
  exact ⟨_, rfl, Lib.hid rfl, by simp [hsz], by simp [hsz], hb⟩

end Go.Proofs.Ythmkmojlnfkfjaa
