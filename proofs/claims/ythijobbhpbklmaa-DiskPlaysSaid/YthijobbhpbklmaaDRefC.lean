/- Layer 3's reference: Crash (its printed walk fell; by hand). -/
import Derived.Test.YthijobbhpbklmaaDRef
import Derived.Deep.DeepCutAuto
namespace Go.Proofs.Ythijobbhpbklmaa
open Go.RowKit Go.Proofs.YthijobbhpbklmaaW.PrintWords Go.Proofs.Ythijobbhpbklmaa.PDiskPlays
set_option linter.unusedVariables false
set_option linter.unusedSimpArgs false

theorem pickB_sector (pk : UInt8) (k : Nat) : pickB pk (k / 128 * 128) = pickB pk k := by
  unfold pickB
  rw [Nat.mul_div_cancel _ (by omega)]
theorem r_bit_l0 (x1 : Nat) (hx1 : x1 ≤ 8) : ∀ (m x i : Nat), i + m = x1 → x < 256 → rubricatorref03_bit.l0 (m + 1) (x : Int) x1 i = some ((x >>> m) % 2 == 1) := by
  intro m
  induction m with
  | zero =>
    intro x i h hx
    rw [rubricatorref03_bit.l0, if_neg (by omega), Int.tmod_eq_emod_of_nonneg (by omega)]
    rw [Nat.shiftRight_zero]
    congr 1
    rcases Nat.mod_two_eq_zero_or_one x with h0 | h0
    · rw [h0, show ((x : Int) % 2) = 0 by omega]; rfl
    · rw [h0, show ((x : Int) % 2) = 1 by omega]; rfl
  | succ m ih =>
    intro x i h hx
    have e : (Int.tdiv (x : Int) 2) % 256 = ((x / 2 : Nat) : Int) := by rw [Int.tdiv_eq_ediv_of_nonneg (by omega)]; omega
    have e1 : wrap64 ((i : Int) + 1) = ((i + 1 : Nat) : Int) := by unfold wrap64; omega
    rw [rubricatorref03_bit.l0, if_pos (by omega), e, e1, ih (x / 2) (i + 1) (by omega) (by omega)]
    rw [show x >>> (m + 1) = (x / 2) >>> m from by rw [Nat.add_comm, Nat.shiftRight_add]; rfl]
theorem r_bit (pk : UInt8) (s : Nat) : rubricatorref03_bit.f (s % 8 + 1) (pk.toNat : Int) ((s % 8 : Nat) : Int) = some (pickB pk (s * 128)) := by
  unfold rubricatorref03_bit.f
  have := r_bit_l0 (s % 8) (by omega) (s % 8) pk.toNat 0 (by omega) pk.toNat_lt
  rw [show ((0 : Nat) : Int) = 0 from rfl] at this
  rw [this]
  unfold pickB
  rw [Nat.mul_div_cancel _ (by omega)]
/-- A page behind a crash, sector by sector. -/
theorem mixed_step (pk : UInt8) (old new : List UInt8) (T t : Nat) (ho : old.length = T * 128) (hn : new.length = T * 128) (ht : t < T) :
    (mixed pk old new).take ((t + 1) * 128) = (mixed pk old new).take (t * 128) ++ ((if pickB pk (t * 128) = true then new else old).take (t * 128 + 128)).drop (t * 128) := by
  have hml : (mixed pk old new).length = T * 128 := by unfold mixed; rw [mixTo_length, ho]
  have hT : (t + 1) * 128 ≤ T * 128 := Nat.mul_le_mul_right _ ht
  apply List.ext_getElem?
  intro i
  have hl1 : ((mixed pk old new).take (t * 128)).length = t * 128 := by rw [List.length_take, hml]; omega
  have hfl : (if pickB pk (t * 128) = true then new else old).length = T * 128 := by split <;> assumption
  by_cases c1 : i < t * 128
  · rw [List.getElem?_append_left (by rw [hl1]; exact c1), List.getElem?_take, List.getElem?_take, if_pos (by omega), if_pos c1]
  rw [List.getElem?_append_right (by rw [hl1]; omega), hl1, List.getElem?_drop, show t * 128 + (i - t * 128) = i by omega]
  by_cases c2 : i < (t + 1) * 128
  · rw [List.getElem?_take, List.getElem?_take, if_pos c2, if_pos (by omega), mixed_get pk old new ho (by omega)]
    have hp : pickB pk (t * 128) = pickB pk i := by
      rw [← pickB_sector pk i]
      congr 1
      omega
    rw [hp]
    by_cases c3 : pickB pk i = true
    · rw [if_pos c3, if_pos c3, List.getD, List.getElem?_eq_getElem (by omega)]
      rfl
    · rw [if_neg c3, if_neg c3, List.getD, List.getElem?_eq_getElem (by omega)]
      rfl
  · rw [List.getElem?_eq_none (by rw [List.length_take, hml]; omega), List.getElem?_eq_none (by rw [List.length_take, hfl]; omega)]
theorem mixed_length (pk : UInt8) (old new : List UInt8) : (mixed pk old new).length = old.length := by unfold mixed; exact mixTo_length _ _ _ _
theorem crashed_pages (s : Nat) : ∀ (l : List (Nat × List UInt8)) (ps : List UInt8) (g : List (List UInt8)), (∀ r ∈ g, r.length = s) → (∀ x ∈ l, x.1 < g.length) → ∀ r ∈ crashed g l ps, r.length = s := by
  intro l
  induction l with
  | nil => intro ps g h _ r hr; rw [crashed_nil] at hr; exact h r hr
  | cons x l ih =>
    intro ps g h hl
    cases ps with
    | nil => intro r hr; exact h r hr
    | cons q ps =>
      have hx := hl x List.mem_cons_self
      refine ih ps _ (fun r hr => ?_) (fun y hy => by rw [List.length_set]; exact hl y (List.mem_cons_of_mem _ hy))
      rcases List.mem_or_eq_of_mem_set hr with h1 | h1
      · exact h r h1
      · rw [h1, mixed_length]
        refine h _ ?_
        rw [List.getD, List.getElem?_eq_getElem hx]
        exact List.getElem_mem hx
end Go.Proofs.Ythijobbhpbklmaa
