/- leaf: cells, the page; plain. -/
import Derived.Test.YtmljfjmceakahaaPage
import Derived.Test.YtmljfjmceakahaaLFill
namespace Go.Proofs.Ytmljfjmceakahaa
open Go.RowKit
set_option linter.unusedVariables false
set_option linter.unusedSimpArgs false

def lTail (e : LE) : Bs := if 0 < e.first then numB 1 1 ++ numB e.long.toNat 4 ++ numB e.first 4 else numB 0 1 ++ numB e.val.length 2 ++ e.val
def lCell (e : LE) : Bs := numB e.key.length 1 ++ e.key ++ lTail e
theorem lCell_length (e : LE) : (lCell e).length = lLong e := by
  unfold lCell lTail lLong
  split <;> simp [numB_length] <;> omega
def lPut (es : List LE) (size : Nat) : Bs := pPut 1 (es.map lCell) size
theorem lFill_p (es : List LE) : lFill es = pFill (es.map lCell) := by simp [lFill, pFill, Function.comp_def, lCell_length]
theorem lPut_length (es : List LE) (size : Nat) (h : lFill es ≤ size) : (lPut es size).length = size := pPut_length _ _ _ (by rw [← lFill_p]; exact h)

/-- What is read of a cell: the key, the kind; then either the value, or how many bytes and from which page on. -/
def cN1 (m : Bs) : Nat := be (takeL m 0 1)
def cM1 (m : Bs) : Bs := takeR m 0 1
def cE1 (m : Bs) : Int := takeE m 0 1
def cKey (m : Bs) : Bs := takeL (cM1 m) (cE1 m) (cN1 m)
def cM2 (m : Bs) : Bs := takeR (cM1 m) (cE1 m) (cN1 m)
def cE2 (m : Bs) : Int := takeE (cM1 m) (cE1 m) (cN1 m)
def cKind (m : Bs) : Nat := be (takeL (cM2 m) (cE2 m) 1)
def cM3 (m : Bs) : Bs := takeR (cM2 m) (cE2 m) 1
def cE3 (m : Bs) : Int := takeE (cM2 m) (cE2 m) 1
def cNv (m : Bs) : Nat := be (takeL (cM3 m) (cE3 m) 2)
def cM4 (m : Bs) : Bs := takeR (cM3 m) (cE3 m) 2
def cE4 (m : Bs) : Int := takeE (cM3 m) (cE3 m) 2
def cVal (m : Bs) : Bs := takeL (cM4 m) (cE4 m) (cNv m)
def cE5 (m : Bs) : Int := takeE (cM4 m) (cE4 m) (cNv m)
def cLong (m : Bs) : Nat := be (takeL (cM3 m) (cE3 m) 4)
def cM6 (m : Bs) : Bs := takeR (cM3 m) (cE3 m) 4
def cE6 (m : Bs) : Int := takeE (cM3 m) (cE3 m) 4
def cFirst (m : Bs) : Nat := be (takeL (cM6 m) (cE6 m) 4)
def cE7 (m : Bs) : Int := takeE (cM6 m) (cE6 m) 4
/-- The entry, and the error. -/
def cEnt (m : Bs) : LE := if cKind m = 0 then ⟨cKey m, cVal m, 0, 0⟩ else ⟨cKey m, [], cLong m, cFirst m⟩
def cErr (m : Bs) : Int := if cKind m = 0 then cE5 m else cE7 m

theorem take_hd (a t m : Bs) (n : Nat) (hm : m = a ++ t) (hn : a.length = n) : takeL m 0 n = a ∧ takeR m 0 n = t ∧ takeE m 0 n = 0 := by
  subst hn
  obtain ⟨h1, h2, h3⟩ := take_nn m a.length (by rw [hm, List.length_append]; omega)
  refine ⟨?_, ?_, h3⟩
  · rw [h1, hm, List.take_append_of_le_length (Nat.le_refl _), List.take_of_length_le (Nat.le_refl _)]
  · rw [h2, hm, List.drop_append_of_le_length (Nat.le_refl _), List.drop_of_length_le (Nat.le_refl _), List.nil_append]

/-- An entry that may be, as it is told by its cell. -/
theorem cell_tells (e : LE) (S : Int) (hS : S ≤ 4096) (h : LOk e S) (ho : e.ok) (t m : Bs) (hm : m = lCell e ++ t) : cErr m = 0 ∧ cEnt m = e := by
  obtain ⟨h1, h2, h3, h4⟩ := h
  have hm1 : m = numB e.key.length 1 ++ (e.key ++ (lTail e ++ t)) := by rw [hm]; simp [lCell]
  obtain ⟨a1, a2, a3⟩ := take_hd _ _ _ 1 hm1 (numB_length _ _)
  have e1 : cE1 m = 0 := a3
  have n1 : cN1 m = e.key.length := by unfold cN1; rw [a1, be_numB _ _ (by omega)]
  have hm2 : cM1 m = e.key ++ (lTail e ++ t) := a2
  obtain ⟨b1, b2, b3⟩ := take_hd _ _ _ e.key.length hm2 rfl
  have hk : cKey m = e.key := by unfold cKey; rw [e1, n1]; exact b1
  have e2 : cE2 m = 0 := by unfold cE2; rw [e1, n1]; exact b3
  have hm3 : cM2 m = lTail e ++ t := by unfold cM2; rw [e1, n1]; exact b2
  by_cases hf : 0 < e.first
  · rw [if_pos hf] at h4
    have ht : cM2 m = numB 1 1 ++ (numB e.long.toNat 4 ++ (numB e.first 4 ++ t)) := by rw [hm3]; simp [lTail, hf]
    obtain ⟨c1, c2, c3⟩ := take_hd _ _ _ 1 ht (numB_length _ _)
    have hkd : cKind m = 1 := by unfold cKind; rw [e2, c1]; rfl
    have e3 : cE3 m = 0 := by unfold cE3; rw [e2]; exact c3
    have hm4 : cM3 m = numB e.long.toNat 4 ++ (numB e.first 4 ++ t) := by unfold cM3; rw [e2]; exact c2
    obtain ⟨d1, d2, d3⟩ := take_hd _ _ _ 4 hm4 (numB_length _ _)
    have hlo : cLong m = e.long.toNat := by unfold cLong; rw [e3, d1, be_numB _ _ (by omega)]
    have e6 : cE6 m = 0 := by unfold cE6; rw [e3]; exact d3
    have hm6 : cM6 m = numB e.first 4 ++ t := by unfold cM6; rw [e3]; exact d2
    obtain ⟨f1, f2, f3⟩ := take_hd _ _ _ 4 hm6 (numB_length _ _)
    have hfi : cFirst m = e.first := by unfold cFirst; rw [e6, f1, be_numB _ _ (by have := ho.1; simpa using this)]
    have e7 : cE7 m = 0 := by unfold cE7; rw [e6]; exact f3
    have hk0 : ¬ cKind m = 0 := by omega
    refine ⟨by unfold cErr; rw [if_neg hk0]; exact e7, ?_⟩
    unfold cEnt
    rw [if_neg hk0, hk, hlo, hfi]
    have hv : e.val = [] := List.eq_nil_of_length_eq_zero h4.1
    have hl : ((e.long.toNat : Nat) : Int) = e.long := by omega
    rw [hl]
    cases e
    simp at hv
    subst hv
    rfl
  · rw [if_neg hf] at h4
    have hll : lLong e = 4 + e.key.length + e.val.length := if_neg hf
    have hvl : e.val.length < 65536 := by omega
    have ht : cM2 m = numB 0 1 ++ (numB e.val.length 2 ++ (e.val ++ t)) := by rw [hm3]; simp [lTail, hf]
    obtain ⟨c1, c2, c3⟩ := take_hd _ _ _ 1 ht (numB_length _ _)
    have hkd : cKind m = 0 := by unfold cKind; rw [e2, c1]; rfl
    have e3 : cE3 m = 0 := by unfold cE3; rw [e2]; exact c3
    have hm4 : cM3 m = numB e.val.length 2 ++ (e.val ++ t) := by unfold cM3; rw [e2]; exact c2
    obtain ⟨d1, d2, d3⟩ := take_hd _ _ _ 2 hm4 (numB_length _ _)
    have hnv : cNv m = e.val.length := by unfold cNv; rw [e3, d1, be_numB _ _ (by omega)]
    have e4 : cE4 m = 0 := by unfold cE4; rw [e3]; exact d3
    have hm5 : cM4 m = e.val ++ t := by unfold cM4; rw [e3]; exact d2
    obtain ⟨f1, f2, f3⟩ := take_hd _ _ _ e.val.length hm5 rfl
    refine ⟨by unfold cErr; rw [if_pos hkd]; unfold cE5; rw [e4, hnv]; exact f3, ?_⟩
    unfold cEnt
    rw [if_pos hkd, hk]
    have hv : cVal m = e.val := by unfold cVal; rw [e4, hnv]; exact f1
    rw [hv]
    have h0 : e.first = 0 := by omega
    cases e
    simp at h0 h4
    subst h0 h4
    rfl

end Go.Proofs.Ytmljfjmceakahaa
