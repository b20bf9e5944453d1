/- A page of cells: places ahead, cells behind; plain laws. -/
import Derived.Test.YtmljfjmceakahaaBGetP
namespace Go.Proofs.Ytmljfjmceakahaa
open Go.RowKit
set_option linter.unusedVariables false
set_option linter.unusedSimpArgs false

abbrev Bs := List UInt8
/-- The cells, as they lie: the last one first. -/
def pCells (cs : List Bs) : Bs := cs.reverse.flatten
theorem pCells_snoc (cs : List Bs) (c : Bs) : pCells (cs ++ [c]) = c ++ pCells cs := by simp [pCells]
def pFill (cs : List Bs) : Nat := 4 + (cs.map fun c => 2 + c.length).sum
theorem pFill_snoc (cs : List Bs) (c : Bs) : pFill (cs ++ [c]) = pFill cs + 2 + c.length := by simp [pFill]; omega
theorem pCells_length (cs : List Bs) : (pCells cs).length + 4 + 2 * cs.length = pFill cs := by
  unfold pCells pFill
  rw [List.length_flatten, List.map_reverse, List.sum_reverse]
  induction cs with
  | nil => rfl
  | cons c cs ih => simp at ih ⊢; omega
theorem pFill_le (cs : List Bs) (k : Nat) : pFill (cs.take k) ≤ pFill cs := by
  have : (cs.map fun c => 2 + c.length).sum = ((cs.map fun c => 2 + c.length).take k).sum + ((cs.map fun c => 2 + c.length).drop k).sum := by rw [← List.sum_append, List.take_append_drop]
  simp only [pFill, List.map_take]
  omega
theorem pCells_take (cs : List Bs) (k : Nat) : ∃ t, pCells cs = t ++ pCells (cs.take k) := by
  refine ⟨pCells (cs.drop k), ?_⟩
  unfold pCells
  rw [← List.flatten_append, ← List.reverse_append, List.take_append_drop]
/-- The places, behind what stands ahead of them. -/
def pPl (kd : Nat) (cs : List Bs) (size k : Nat) : Bs :=
  numB kd 1 ++ numB 0 1 ++ numB cs.length 2 ++ (List.range k).flatMap fun j => numB (size - (pCells (cs.take (j + 1))).length) 2
theorem pPl_succ (kd : Nat) (cs : List Bs) (size k : Nat) : pPl kd cs size (k + 1) = pPl kd cs size k ++ numB (size - (pCells (cs.take (k + 1))).length) 2 := by
  simp [pPl, List.range_succ, List.append_assoc]
theorem pPl_length (kd : Nat) (cs : List Bs) (size k : Nat) : (pPl kd cs size k).length = 4 + 2 * k := by
  induction k with
  | zero => simp [pPl, numB_length]
  | succ k ih => rw [pPl_succ, List.length_append, ih, numB_length]; omega
theorem pPl_take (kd : Nat) (cs : List Bs) (size : Nat) : ∀ (d k : Nat), ∃ t, pPl kd cs size (k + d) = pPl kd cs size k ++ t
  | 0, k => ⟨[], by simp⟩
  | d + 1, k => by
    obtain ⟨t, ht⟩ := pPl_take kd cs size d k
    exact ⟨t ++ numB (size - (pCells (cs.take (k + d + 1))).length) 2, by rw [show k + (d + 1) = (k + d) + 1 from rfl, pPl_succ, ht, List.append_assoc]⟩
/-- The page. -/
def pPut (kd : Nat) (cs : List Bs) (size : Nat) : Bs := pPl kd cs size cs.length ++ List.replicate (size - pFill cs) 0 ++ pCells cs
theorem pPut_length (kd : Nat) (cs : List Bs) (size : Nat) (h : pFill cs ≤ size) : (pPut kd cs size).length = size := by
  have := pCells_length cs
  simp [pPut, pPl_length]
  omega
theorem pFill_ge (cs : List Bs) : 4 + 2 * cs.length ≤ pFill cs := by have := pCells_length cs; omega

theorem pPut_count {kd : Nat} {cs : List Bs} {l : Bs} (hf : pFill cs ≤ l.length) (hl : l.length ≤ 4096) (hp : pPut kd cs l.length = l) : be ((l.drop 2).take 2) = cs.length := by
  have hn := pFill_ge cs
  obtain ⟨t, ht⟩ := pPl_take kd cs l.length cs.length 0
  rw [Nat.zero_add] at ht
  have h0 : pPl kd cs l.length 0 = (numB kd 1 ++ numB 0 1) ++ numB cs.length 2 := by simp [pPl]
  rw [← hp]
  unfold pPut
  rw [ht, h0]
  simp only [List.append_assoc]
  rw [show numB kd 1 ++ (numB 0 1 ++ (numB cs.length 2 ++ (t ++ (List.replicate (l.length - pFill cs) 0 ++ pCells cs)))) = (numB kd 1 ++ numB 0 1) ++ (numB cs.length 2 ++ (t ++ (List.replicate (l.length - pFill cs) 0 ++ pCells cs))) by simp]
  rw [List.drop_append_of_le_length (by simp [numB_length]), List.drop_of_length_le (by simp [numB_length]), List.nil_append]
  rw [List.take_append_of_le_length (by rw [numB_length]; omega), List.take_of_length_le (by rw [numB_length]; omega), be_numB _ _ (by omega)]
/-- A place, and what stands there. -/
theorem pPut_at {kd : Nat} {cs : List Bs} {l : Bs} (hf : pFill cs ≤ l.length) (hl : l.length ≤ 4096) (hp : pPut kd cs l.length = l) {k : Nat} {c : Bs} (he : cs[k]? = some c) :
    4 + 2 * k + 2 ≤ l.length ∧ bAt l k ≤ l.length ∧ ∃ t, l.drop (bAt l k) = c ++ t := by
  have hk := (List.getElem?_eq_some_iff.1 he).1
  have hcl := pCells_length cs
  have hct := pCells_length (cs.take (k + 1))
  have hft := pFill_le cs (k + 1)
  rw [List.length_take, Nat.min_eq_left (by omega)] at hct
  have hpl := pPl_length kd cs l.length k
  have hat : (l.drop (4 + 2 * k)).take 2 = numB (l.length - (pCells (cs.take (k + 1))).length) 2 := by
    obtain ⟨t, ht⟩ := pPl_take kd cs l.length (cs.length - (k + 1)) (k + 1)
    rw [show k + 1 + (cs.length - (k + 1)) = cs.length by omega, pPl_succ] at ht
    have : l = pPl kd cs l.length k ++ (numB (l.length - (pCells (cs.take (k + 1))).length) 2 ++ (t ++ (List.replicate (l.length - pFill cs) 0 ++ pCells cs))) := by
      conv => lhs; rw [← hp]
      unfold pPut
      rw [ht]
      simp only [List.append_assoc]
    conv => lhs; rw [this]
    rw [List.drop_append_of_le_length (by omega), List.drop_of_length_le (by omega), List.nil_append, List.take_append_of_le_length (by rw [numB_length]; omega), List.take_of_length_le (by rw [numB_length]; omega)]
  have hA : bAt l k = l.length - (pCells (cs.take (k + 1))).length := by
    unfold bAt
    rw [hat, be_numB _ _ (by omega)]
  refine ⟨by omega, by omega, pCells (cs.take k), ?_⟩
  obtain ⟨t, ht⟩ := pCells_take cs (k + 1)
  have hl2 : l = (pPl kd cs l.length cs.length ++ List.replicate (l.length - pFill cs) 0 ++ t) ++ pCells (cs.take (k + 1)) := by
    conv => lhs; rw [← hp]
    unfold pPut
    conv => lhs; rw [ht]
    simp only [List.append_assoc]
  have hlen : (pPl kd cs l.length cs.length ++ List.replicate (l.length - pFill cs) 0 ++ t).length = bAt l k := by
    have := congrArg List.length hl2
    rw [List.length_append] at this
    omega
  obtain ⟨p, hpq⟩ : ∃ p, bAt l k = p := ⟨_, rfl⟩
  rw [hpq] at hlen ⊢
  conv => lhs; rw [hl2]
  rw [List.drop_append_of_le_length (by omega), List.drop_of_length_le (by omega), List.nil_append, take_succ_some he, pCells_snoc]

end Go.Proofs.Ytmljfjmceakahaa
