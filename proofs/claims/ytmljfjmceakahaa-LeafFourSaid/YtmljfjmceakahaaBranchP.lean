/- branch: the page, plain laws. -/
import Derived.Test.YtmljfjmceakahaaBranch
namespace Go.Proofs.Ytmljfjmceakahaa
open Go.RowKit
set_option linter.unusedVariables false

def bCell (e : List UInt8 × Nat) : List UInt8 := numB e.1.length 1 ++ e.1 ++ numB e.2 4
theorem bCell_length (e : List UInt8 × Nat) : (bCell e).length = e.1.length + 5 := by simp [bCell, numB_length]; omega
/-- The cells, as they lie: the last one first. -/
def bCells (es : List (List UInt8 × Nat)) : List UInt8 := (es.map bCell).reverse.flatten
theorem bCells_snoc (es : List (List UInt8 × Nat)) (e : List UInt8 × Nat) : bCells (es ++ [e]) = bCell e ++ bCells es := by simp [bCells]
theorem bFill_snoc (es : List (List UInt8 × Nat)) (e : List UInt8 × Nat) : bFill (es ++ [e]) = bFill es + 7 + e.1.length := by simp [bFill]; omega
theorem bCells_length (es : List (List UInt8 × Nat)) : (bCells es).length + 4 + 2 * es.length = bFill es := by
  unfold bCells bFill
  rw [List.length_flatten, List.map_reverse, List.sum_reverse]
  induction es with
  | nil => rfl
  | cons e es ih => simp [bCell_length] at ih ⊢; omega
theorem take_succ_some {α : Type} {es : List α} {k : Nat} {e : α} (h : es[k]? = some e) : es.take (k + 1) = es.take k ++ [e] := by rw [List.take_add_one, h]; rfl
theorem bFill_le (es : List (List UInt8 × Nat)) (k : Nat) : bFill (es.take k) ≤ bFill es := by
  have : (es.map fun e => 7 + e.1.length).sum = ((es.map fun e => 7 + e.1.length).take k).sum + ((es.map fun e => 7 + e.1.length).drop k).sum := by rw [← List.sum_append, List.take_append_drop]
  simp only [bFill, List.map_take]
  omega
/-- The places, behind what stands ahead of them. -/
def bPl (es : List (List UInt8 × Nat)) (size k : Nat) : List UInt8 :=
  numB 2 1 ++ numB 0 1 ++ numB es.length 2 ++ (List.range k).flatMap fun j => numB (size - (bCells (es.take (j + 1))).length) 2
theorem bPl_succ (es : List (List UInt8 × Nat)) (size k : Nat) : bPl es size (k + 1) = bPl es size k ++ numB (size - (bCells (es.take (k + 1))).length) 2 := by
  simp [bPl, List.range_succ, List.append_assoc]
theorem bPl_length (es : List (List UInt8 × Nat)) (size k : Nat) : (bPl es size k).length = 4 + 2 * k := by
  induction k with
  | zero => simp [bPl, numB_length]
  | succ k ih => rw [bPl_succ, List.length_append, ih, numB_length]; omega
/-- The page. -/
def bPut (es : List (List UInt8 × Nat)) (size : Nat) : List UInt8 := bPl es size es.length ++ List.replicate (size - bFill es) 0 ++ bCells es
theorem bPut_length (es : List (List UInt8 × Nat)) (size : Nat) (h : bFill es ≤ size) : (bPut es size).length = size := by
  have := bCells_length es
  simp [bPut, bPl_length]
  omega

theorem splice_cell (E : Nat) (c cells : List UInt8) (h : c.length ≤ E) : splice (List.replicate E 0 ++ cells) (E - c.length) c = List.replicate (E - c.length) 0 ++ (c ++ cells) := by
  unfold splice
  rw [List.take_append_of_le_length (by simp), List.take_replicate, Nat.min_eq_left (by omega), List.drop_append_of_le_length (by simp; omega), List.drop_replicate]
  rw [show E - (E - c.length + c.length) = 0 by omega]
  simp
theorem splice_places (E : Nat) (p cells : List UInt8) (h : p.length ≤ E) : splice (List.replicate E 0 ++ cells) 0 p = p ++ (List.replicate (E - p.length) 0 ++ cells) := by
  unfold splice
  rw [List.take_zero, List.nil_append, Nat.zero_add, List.drop_append_of_le_length (by simp; omega), List.drop_replicate]

end Go.Proofs.Ytmljfjmceakahaa
