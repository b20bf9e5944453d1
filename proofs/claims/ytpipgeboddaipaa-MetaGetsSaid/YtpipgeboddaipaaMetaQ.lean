/- What Get tells of a page that Put made. -/
import Derived.Test.YtpipgeboddaipaaMetaC
namespace Go.Proofs.Ytpipgeboddaipaa
open Go.RowKit
set_option linter.unusedVariables false
set_option linter.unusedSimpArgs false

theorem numB_next (x k : Nat) : numB x (k + 1) = UInt8.ofNat (x / 2 ^ (8 * k)) :: numB x k := by
  apply List.ext_getElem?
  intro i
  cases i with
  | zero => simp [numB, List.getElem?_range]
  | succ i =>
    simp only [numB, List.getElem?_cons_succ, List.getElem?_map]
    by_cases h : i < k
    · rw [List.getElem?_range (by omega), List.getElem?_range h]
      simp only [Option.map_some]
      congr 4
      omega
    · rw [List.getElem?_eq_none (by simp; omega), List.getElem?_eq_none (by simp; omega)]
      rfl
theorem be_from' (l : List UInt8) : ∀ a : Nat, l.foldl (fun x c => x * 256 + c.toNat) a = a * 256 ^ l.length + be l := by
  induction l with
  | nil => intro a; simp [be]
  | cons c l ih =>
    intro a
    have h := ih (0 * 256 + c.toNat)
    simp only [be, List.foldl_cons, List.length_cons] at *
    rw [ih (a * 256 + c.toNat), h, Nat.pow_succ, Nat.add_mul, Nat.mul_assoc, Nat.mul_comm 256 (256 ^ l.length), Nat.zero_mul, Nat.zero_add]
    omega
theorem be_first (c : UInt8) (l : List UInt8) : be (c :: l) = c.toNat * 256 ^ l.length + be l := by
  have := be_from' l (0 * 256 + c.toNat)
  simpa [be] using this
theorem be_num (x k : Nat) : be (numB x k) = x % 256 ^ k := by
  induction k with
  | zero => simp [numB, be, Nat.mod_one]
  | succ k ih =>
    rw [numB_next, be_first, ih, numB_length, Nat.pow_succ, Nat.mod_mul]
    have h : (UInt8.ofNat (x / 2 ^ (8 * k))).toNat = x / 256 ^ k % 256 := by
      rw [Nat.pow_mul]
      simp [UInt8.toNat_ofNat']
    rw [h, Nat.mul_comm]
    omega
theorem be_num_lt (x k : Nat) (h : x < 256 ^ k) : be (numB x k) = x := by rw [be_num, Nat.mod_eq_of_lt h]

theorem numAt_app (a b c : List UInt8) (p s : Nat) (hp : a.length = p) (hs : b.length = s) : numAt (a ++ (b ++ c)) p s = be b := by
  unfold numAt
  rw [List.drop_append_of_le_length (by omega), List.drop_of_length_le (by omega), List.nil_append, List.take_append_of_le_length (by omega), List.take_of_length_le (by omega)]
theorem mPut_eq (t e m f size : Nat) : mPut t e m f size = [82, 85, 66, 49] ++ (numB size 4 ++ (numB t 8 ++ (numB e 4 ++ (numB m 4 ++ (numB f 4 ++ (numB (crcOf (msum t e m f size)) 4 ++ List.replicate (size - 32) 0)))))) := by
  simp [mPut, msum, mhead, pgs]
theorem mGet_put (t e m f size : Nat) (ht : t < 18446744073709551616) (he : e < 4294967296) (hm : m < 4294967296) (hf : f < 4294967296) (hR : MRight t e m f) (h1 : 512 ≤ size) (h2 : size ≤ 4096) :
    mGet (mPut t e m f size) = (some (t, e, m, f), 0) := by
  have hlen := mPut_length t e m f size (by omega)
  have hX := crcOf_lt (msum t e m f size)
  have n0 : numAt (mPut t e m f size) 4 4 = size := by
    rw [mPut_eq, numAt_app _ _ _ 4 4 (by simp) (numB_length _ _), be_num_lt _ _ (by omega)]
  have n1 : numAt (mPut t e m f size) 8 8 = t := by
    rw [mPut_eq, ← List.append_assoc [82, 85, 66, 49], numAt_app _ _ _ _ _ (by simp [numB_length]) (numB_length _ _), be_num_lt _ _ (by omega)]
  have n2 : numAt (mPut t e m f size) 16 4 = e := by
    rw [mPut_eq, ← List.append_assoc [82, 85, 66, 49], ← List.append_assoc ([82, 85, 66, 49] ++ _), numAt_app _ _ _ _ _ (by simp [numB_length]) (numB_length _ _), be_num_lt _ _ (by omega)]
  have n3 : numAt (mPut t e m f size) 20 4 = m := by
    rw [mPut_eq, ← List.append_assoc [82, 85, 66, 49], ← List.append_assoc ([82, 85, 66, 49] ++ _), ← List.append_assoc ([82, 85, 66, 49] ++ _ ++ _), numAt_app _ _ _ _ _ (by simp [numB_length]) (numB_length _ _), be_num_lt _ _ (by omega)]
  have n4 : numAt (mPut t e m f size) 24 4 = f := by
    rw [mPut_eq, ← List.append_assoc [82, 85, 66, 49], ← List.append_assoc ([82, 85, 66, 49] ++ _), ← List.append_assoc ([82, 85, 66, 49] ++ _ ++ _), ← List.append_assoc ([82, 85, 66, 49] ++ _ ++ _ ++ _), numAt_app _ _ _ _ _ (by simp [numB_length]) (numB_length _ _), be_num_lt _ _ (by omega)]
  have hsum : mPut t e m f size = msum t e m f size ++ (numB (crcOf (msum t e m f size)) 4 ++ List.replicate (size - 32) 0) := by simp [mPut]
  have n5 : numAt (mPut t e m f size) 28 4 = crcOf (msum t e m f size) := by
    rw [hsum, numAt_app _ _ _ _ _ (msum_length _ _ _ _ _) (numB_length _ _), be_num_lt _ _ (by omega)]
  have t28 : (mPut t e m f size).take 28 = msum t e m f size := by
    rw [hsum, List.take_append_of_le_length (by rw [msum_length]; omega), List.take_of_length_le (by rw [msum_length]; omega)]
  have t4 : (mPut t e m f size).take 4 = [82, 85, 66, 49] := by rw [mPut_eq]; rfl
  have d32 : (mPut t e m f size).drop 32 = List.replicate (size - 32) 0 := by
    have : mPut t e m f size = (msum t e m f size ++ numB (crcOf (msum t e m f size)) 4) ++ List.replicate (size - 32) 0 := by simp [mPut]
    rw [this, List.drop_append_of_le_length (by simp [msum_length, numB_length]), List.drop_of_length_le (by simp [msum_length, numB_length]), List.nil_append]
  unfold mGet
  rw [hlen, n0, n1, n2, n3, n4, n5, t28, t4, d32]
  rw [if_neg (fun h => h ⟨h1, h2⟩), if_neg (fun h => h ⟨rfl, rfl, rfl⟩), if_neg (fun h => h rfl), if_neg (fun h => h hR)]

end Go.Proofs.Ytpipgeboddaipaa
