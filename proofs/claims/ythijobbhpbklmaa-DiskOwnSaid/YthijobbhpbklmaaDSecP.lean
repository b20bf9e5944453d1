/- DiskSectors: plain: sectors behind a crash. -/
import Derived.Test.YthijobbhpbklmaaDLastP
namespace Go.Proofs.Ythijobbhpbklmaa
set_option linter.unusedVariables false
set_option linter.unusedSimpArgs false

/-- A page of five sectors, each of one byte. -/
def secPage (want : List UInt8) (i : Nat) : List UInt8 := (List.range 640).map fun k => want.getD (5 * i + k / 128) 0
def Sec (g : List (List UInt8)) (want : List UInt8) : Prop := want.length = 5 * g.length ∧ ∀ i, i < g.length → g.getD i [] = secPage want i
/-- The law's want, behind s sectors of one write. -/
def wantTo (want : List UInt8) (a : Nat) (pk v : UInt8) : Nat → List UInt8
  | 0 => want
  | s + 1 => if pickB pk (s * 128) = true then (wantTo want a pk v s).set (5 * a + s) v else wantTo want a pk v s
theorem wantTo_length (want : List UInt8) (a : Nat) (pk v : UInt8) (s : Nat) : (wantTo want a pk v s).length = want.length := by
  induction s with
  | zero => rfl
  | succ s ih =>
    rw [wantTo]
    split
    · rw [List.length_set, ih]
    · exact ih
theorem wantTo_get (want : List UInt8) (a : Nat) (pk v : UInt8) (s : Nat) (j : Nat) (hl : 5 * a + s ≤ want.length) : (wantTo want a pk v s).getD j 0 = if 5 * a ≤ j ∧ j < 5 * a + s ∧ pickB pk ((j - 5 * a) * 128) = true then v else want.getD j 0 := by
  induction s with
  | zero => rw [if_neg (by omega)]; rfl
  | succ s ih =>
    rw [wantTo]
    by_cases hj : j = 5 * a + s
    · subst hj
      rw [show 5 * a + s - 5 * a = s by omega]
      split
      · rename_i hp
        rw [if_pos ⟨by omega, by omega, hp⟩]
        simp only [List.getD]
        rw [List.getElem?_set_self (by rw [wantTo_length]; omega)]
        rfl
      · rename_i hp
        rw [if_neg (fun h => hp h.2.2), ih (by omega), if_neg (by omega)]
    · have e : (wantTo want a pk v s).getD j 0 = if 5 * a ≤ j ∧ j < 5 * a + (s + 1) ∧ pickB pk ((j - 5 * a) * 128) = true then v else want.getD j 0 := by
        rw [ih (by omega)]
        have : (5 * a ≤ j ∧ j < 5 * a + s ∧ pickB pk ((j - 5 * a) * 128) = true) ↔ (5 * a ≤ j ∧ j < 5 * a + (s + 1) ∧ pickB pk ((j - 5 * a) * 128) = true) := by
          constructor
          · rintro ⟨h1, h2, h3⟩; exact ⟨h1, by omega, h3⟩
          · rintro ⟨h1, h2, h3⟩; exact ⟨h1, by omega, h3⟩
        simp only [this]
      split
      · rw [← e]
        simp only [List.getD]
        rw [List.getElem?_set_ne (by omega)]
      · exact e
theorem secPage_length (want : List UInt8) (i : Nat) : (secPage want i).length = 640 := by simp only [secPage, List.length_map, List.length_range]
theorem pickB_sector (pk : UInt8) (k : Nat) : pickB pk (k / 128 * 128) = pickB pk k := by
  unfold pickB
  rw [Nat.mul_div_cancel _ (by omega)]
/-- One write's crash. -/
theorem Sec.step {g : List (List UInt8)} {want : List UInt8} (h : Sec g want) {a : Nat} (ha : a < g.length) (pk v : UInt8) : Sec (g.set a (mixed pk (g.getD a []) (List.replicate 640 v))) (wantTo want a pk v 5) := by
  obtain ⟨hl, hg⟩ := h
  refine ⟨by rw [wantTo_length, List.length_set]; exact hl, fun i hi => ?_⟩
  rw [List.length_set] at hi
  by_cases e : a = i
  · subst e
    rw [List.getD, List.getElem?_set_self hi]
    show mixed pk (g.getD a []) (List.replicate 640 v) = _
    rw [hg a hi]
    unfold mixed mixTo
    rw [secPage_length]
    unfold secPage
    apply List.map_congr_left
    intro k hk
    have hk := List.mem_range.1 hk
    rw [wantTo_get _ _ _ _ _ _ (by omega), show 5 * a + k / 128 - 5 * a = k / 128 by omega, pickB_sector]
    have h1 : k < 640 / 128 * 128 := by omega
    have e1 : (List.replicate 640 v).getD k 0 = v := by
      rw [List.getD, List.getElem?_replicate, if_pos hk]; rfl
    have e2 : ((List.range 640).map fun k => want.getD (5 * a + k / 128) 0).getD k 0 = want.getD (5 * a + k / 128) 0 := by
      rw [List.getD, List.getElem?_map, List.getElem?_range hk]; rfl
    rw [e1, e2]
    by_cases hp : pickB pk k = true
    · rw [if_pos ⟨h1, hp⟩, if_pos ⟨by omega, by omega, hp⟩]
    · rw [if_neg (fun h => hp h.2), if_neg (fun h => hp h.2.2)]
  · rw [List.getD, List.getElem?_set_ne e]
    show g.getD i [] = _
    rw [hg i hi]
    unfold secPage
    apply List.map_congr_left
    intro k hk
    have hk := List.mem_range.1 hk
    rw [wantTo_get _ _ _ _ _ _ (by omega), if_neg (by omega)]
end Go.Proofs.Ythijobbhpbklmaa
