/- Laws of the order of byte strings; entries of a page rise. -/
import Derived.Test.YtmljfjmceakahaaBRight
import Derived.Test.YtmljfjmceakahaaBFind
namespace Go.Proofs.Ytmljfjmceakahaa
open Go.RowKit
set_option linter.unusedVariables false
set_option linter.unusedSimpArgs false

theorem cmp_neg (a b : List UInt8) : Lib.compareBytes a b = -(Lib.compareBytes b a) := by
  induction a generalizing b with
  | nil => cases b <;> rfl
  | cons x a ih =>
    cases b with
    | nil => rfl
    | cons y b =>
      unfold Lib.compareBytes
      simp only [UInt8.lt_iff_toNat_lt]
      rcases Nat.lt_trichotomy x.toNat y.toNat with h | h | h
      · rw [if_pos h, if_neg (by omega), if_pos h]
      · rw [if_neg (by omega), if_neg (by omega), if_neg (by omega), if_neg (by omega)]
        exact ih b
      · rw [if_neg (by omega), if_pos h, if_pos h]
        rfl
theorem cmp_eq0 (a b : List UInt8) : Lib.compareBytes a b = 0 ↔ a = b := by
  induction a generalizing b with
  | nil => cases b <;> simp [Lib.compareBytes]
  | cons x a ih =>
    cases b with
    | nil => simp [Lib.compareBytes]
    | cons y b =>
      unfold Lib.compareBytes
      simp only [UInt8.lt_iff_toNat_lt]
      rcases Nat.lt_trichotomy x.toNat y.toNat with h | h | h
      · rw [if_pos h]
        refine ⟨fun hh => by omega, fun hh => ?_⟩
        cases hh
        omega
      · rw [if_neg (by omega), if_neg (by omega), ih b]
        have hxy : x = y := UInt8.toNat_inj.1 h
        simp [hxy]
      · rw [if_neg (by omega), if_pos h]
        refine ⟨fun hh => by omega, fun hh => ?_⟩
        cases hh
        omega
theorem cmp_trans (a b c : List UInt8) (h1 : Lib.compareBytes a b < 0) (h2 : Lib.compareBytes b c ≤ 0) : Lib.compareBytes a c < 0 := by
  induction a generalizing b c with
  | nil =>
    cases b with
    | nil => simp [Lib.compareBytes] at h1
    | cons y b =>
      cases c with
      | nil => simp [Lib.compareBytes] at h2
      | cons z c => simp [Lib.compareBytes]
  | cons x a ih =>
    cases b with
    | nil => simp [Lib.compareBytes] at h1
    | cons y b =>
      cases c with
      | nil => simp [Lib.compareBytes] at h2
      | cons z c =>
        unfold Lib.compareBytes at h1 h2 ⊢
        simp only [UInt8.lt_iff_toNat_lt] at h1 h2 ⊢
        rcases Nat.lt_trichotomy x.toNat y.toNat with h | h | h
        · rcases Nat.lt_trichotomy y.toNat z.toNat with h' | h' | h'
          · rw [if_pos (by omega)]; omega
          · rw [if_pos (by omega)]; omega
          · rw [if_neg (by omega), if_pos h'] at h2; omega
        · rw [if_neg (by omega), if_neg (by omega)] at h1
          rcases Nat.lt_trichotomy y.toNat z.toNat with h' | h' | h'
          · rw [if_pos (by omega)]; omega
          · rw [if_neg (by omega), if_neg (by omega)] at h2
            rw [if_neg (by omega), if_neg (by omega)]
            exact ih b c h1 h2
          · rw [if_neg (by omega), if_pos h'] at h2; omega
        · rw [if_neg (by omega), if_pos h] at h1; omega

theorem BRight.rise {es : List (List UInt8 × Nat)} {S : Int} (h : BRight es S) : ∀ (d i : Nat) (a b : List UInt8 × Nat), es[i]? = some a → es[i + 1 + d]? = some b → Lib.compareBytes a.1 b.1 < 0
  | 0, i, a, b, ha, hb => ((h.2.2.2.2 (i + 1) (List.getElem?_eq_some_iff.1 hb).1) b.1 b.2 hb).2.2 (by omega) a.1 a.2 (by simpa using ha)
  | d + 1, i, a, b, ha, hb => by
    have hlt := (List.getElem?_eq_some_iff.1 hb).1
    obtain ⟨m, hm⟩ : ∃ m, es[i + 1 + d]? = some m := ⟨_, List.getElem?_eq_getElem (by omega)⟩
    have h1 := BRight.rise h d i a m ha hm
    have h2 := ((h.2.2.2.2 (i + 1 + (d + 1)) hlt) b.1 b.2 hb).2.2 (by omega) m.1 m.2 (by simpa [show i + 1 + (d + 1) - 1 = i + 1 + d from by omega] using hm)
    exact cmp_trans _ _ _ h1 (Int.le_of_lt h2)

theorem BRight.strict {es : List (List UInt8 × Nat)} {S : Int} (h : BRight es S) (key : List UInt8) : ∀ i j, i < j → j < es.length → 0 ≤ bRk es key i → 0 < bRk es key j := by
  intro i j hij hj hi
  obtain ⟨a, ha⟩ : ∃ a, es[i]? = some a := ⟨_, List.getElem?_eq_getElem (by omega)⟩
  obtain ⟨b, hb⟩ : ∃ b, es[j]? = some b := ⟨_, List.getElem?_eq_getElem hj⟩
  have hr := h.rise (j - (i + 1)) i a b ha (by rw [show i + 1 + (j - (i + 1)) = j by omega]; exact hb)
  simp only [bRk, ha, hb] at hi ⊢
  rcases Int.lt_or_le 0 (Lib.compareBytes b.1 key) with h1 | h1
  · exact h1
  · have := cmp_trans _ _ _ hr h1
    omega
theorem BRight.first {es : List (List UInt8 × Nat)} {S : Int} (h : BRight es S) (key : List UInt8) : bRk es key 0 ≤ 0 := by
  obtain ⟨a, ha⟩ : ∃ a, es[0]? = some a := ⟨_, List.getElem?_eq_getElem (by have := h.2.2.1; omega)⟩
  have h0 : a.1 = [] := List.eq_nil_of_length_eq_zero (h.2.2.2.1 a.1 a.2 ha)
  simp only [bRk, ha, h0]
  cases key <;> simp [Lib.compareBytes]

end Go.Proofs.Ytmljfjmceakahaa
