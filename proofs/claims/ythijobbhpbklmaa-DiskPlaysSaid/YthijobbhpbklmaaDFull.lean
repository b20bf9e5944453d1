/- Layer 3's law: full. -/
import Derived.Test.YthijobbhpbklmaaCrash
namespace Go.Proofs.Ythijobbhpbklmaa
open Go.RowKit
set_option linter.unusedVariables false
set_option linter.unusedSimpArgs false

def fullTo (size : Nat) (b : List UInt8) (k : Nat) : List UInt8 := (List.range size).map fun i => if i < k then b.getD (i % b.length) 0 else 0
def fullB (size : Nat) (b : List UInt8) : List UInt8 := fullTo size b size
theorem fullTo_length (size : Nat) (b : List UInt8) (k : Nat) : (fullTo size b k).length = size := by simp [fullTo]
theorem fullTo_zero (size : Nat) (b : List UInt8) : fullTo size b 0 = List.replicate size 0 := by
  unfold fullTo
  apply List.ext_getElem?
  intro i
  by_cases h : i < size
  · simp [List.getElem?_range h, List.getElem?_replicate, h]
  · rw [List.getElem?_eq_none (by simp; omega), List.getElem?_eq_none (by simp; omega)]
theorem fullTo_succ (size : Nat) (b : List UInt8) (k : Nat) {x : UInt8} (hx : b[k % b.length]? = some x) : (fullTo size b k).set k x = fullTo size b (k + 1) := by
  apply List.ext_getElem?
  intro i
  by_cases h : i < size
  · by_cases e : k = i
    · subst e
      rw [List.getElem?_set_self (by rw [fullTo_length]; exact h)]
      simp [fullTo, List.getElem?_range h, List.getD, hx]
    · rw [List.getElem?_set_ne e]
      have : (i < k + 1) ↔ i < k := by omega
      simp [fullTo, List.getElem?_range h, this]
  · rw [List.getElem?_eq_none (by simp [fullTo]; omega), List.getElem?_eq_none (by simp [fullTo]; omega)]
theorem fullB_length (size : Nat) (b : List UInt8) : (fullB size b).length = size := fullTo_length _ _ _
theorem fullB_get (size : Nat) (b : List UInt8) {i : Nat} (h : i < size) : (fullB size b)[i]? = some (b.getD (i % b.length) 0) := by simp [fullB, fullTo, List.getElem?_range h, h]
theorem fullB_one (size : Nat) (x : UInt8) : fullB size [x] = List.replicate size x := by
  apply List.ext_getElem?
  intro i
  by_cases h : i < size
  · rw [fullB_get _ _ h, List.getElem?_replicate, if_pos h]
    simp [Nat.mod_one]
  · rw [List.getElem?_eq_none (by rw [fullB_length]; omega), List.getElem?_eq_none (by simp; omega)]

set_option maxRecDepth 100000 in
theorem full_is (w : World) (size : Nat) (h0 : 0 < size) (h1 : size ≤ 1000000) (B : Nat) (A : Option Addr) (n c : Nat) (b : List UInt8) (hb : Sl w B A n c b) (hB : B ≤ w.heap.size) (hn : 0 < n) (hn2 : n ≤ 9223372036854775807) :
    Calls Try.prog 22 #[.int .i64 (size : Int), .slice A n c, .bool false] w fun e w' => e = .returned (.slice (some ⟨w.heap.size, 0, none⟩) size size) ∧ RowB w' w.heap.size (fullB size b) ∧ Below w.heap.size w w' := by
  have hd0 : decide (0 < n) = true := decide_eq_true hn
  have hd0' : decide ((0 : Int) < (n : Int)) = true := decide_eq_true (by omega)
  have hlen := hb.len
  have HB := Lib.hid hb
  clear hb
  go_enter Try.func22, Try.ntmps22
  go_wp2_with (first | (at_make; refine wpList_make_bytesN _ rfl _ _ _ rfl Try.underlying30 info_u8 _ _ _ rfl rfl size rfl (by omega) ?_; intro w2 hr2 hb2))
  go_loopw [8] (fun i wr => ∃ k : Nat, k ≤ size ∧ i = .int .i64 (k : Int) ∧ RowB wr w.heap.size (fullTo size b k) ∧ Below w.heap.size w wr) (fun i _ => size - (intOf i).toNat)
  case atStart => exact ⟨0, Nat.zero_le _, rfl, by rw [fullTo_zero]; exact hr2, hb2⟩
  case round =>
    obtain ⟨k, hk, rfl, hr, hbw⟩ := hrel
    by_cases hlt : k < size
    · have hd1 : decide (k < size) = true := decide_eq_true hlt
      have hd1' : decide ((k : Int) < (size : Int)) = true := decide_eq_true (by omega)
      have hm : k % n < n := Nat.mod_lt _ hn
      obtain ⟨ad, x, rfl, hx, hxc⟩ : ∃ ad x, A = some ad ∧ b[k % n]? = some x ∧ wr.cell? (ad.add (k % n)) = some (.int .u8 (x.toNat : Int)) := by
        obtain ⟨ad, u, ea, hb', hu, hc⟩ := (HB.out.below (Below.mono hbw hB)).reads.at_ hm
        simp only [bv, List.getElem?_map, Option.map_eq_some_iff] at hu
        obtain ⟨q, hq, rfl⟩ := hu
        exact ⟨ad, q, ea, hq, hc⟩
      have htm : (k : Int).tmod (n : Int) = ((k % n : Nat) : Int) := by rw [Int.tmod_eq_emod_of_nonneg (by omega)]; rfl
      have hnz : ¬ (n : Int) = 0 := by omega
      have hgl := fullTo_length size b k
      obtain ⟨y, hy⟩ : ∃ y, (fullTo size b k)[k]? = some y := ⟨_, List.getElem?_eq_getElem (by rw [hgl]; exact hlt)⟩
      have hyc := hr.cell hy
      have hyf := hr.frozen k
      have hr9 := hr.set_ k x
      rw [fullTo_succ size b k (by rw [hlen]; exact hx)] at hr9
      have HR9 := Lib.hid hr9
      have hb9 := hbw.setCell (p := ⟨w.heap.size, k, none⟩) (Nat.le_refl _) (.int .u8 (x.toNat : Int))
      have HB9 := Lib.hid hb9
      clear hr hr9 hb9 hy hgl hx
      go_wp2_with fail
      exact ⟨⟨k + 1, by omega, by go_num, HR9.out, HB9.out⟩, by simp [intOf]; omega⟩
    · obtain rfl : k = size := by omega
      go_wp2_with fail
      go_ret
      exact ⟨rfl, hr, hbw⟩
end Go.Proofs.Ythijobbhpbklmaa
