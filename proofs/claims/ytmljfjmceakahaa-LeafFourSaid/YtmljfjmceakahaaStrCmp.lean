/- The order of strings. -/
import Derived.Test.YtmljfjmceakahaaBCmpP
import Derived.Test.YtmljfjmceakahaaRefN
import Derived.Laws.Cover1
namespace Go.Proofs.Ytmljfjmceakahaa
open Go.RowKit
set_option linter.unusedVariables false
set_option linter.unusedSimpArgs false

theorem st_size (l : List UInt8) : (st l).size = l.length := by simp [ByteArray.size]

/-- Strings in order. -/
theorem bytesLess_cmp (a b : List UInt8) : Op.bytesLess a b = decide (Lib.compareBytes a b < 0) := by
  induction a generalizing b with
  | nil => cases b <;> simp [Op.bytesLess, Lib.compareBytes]
  | cons x a ih =>
    cases b with
    | nil => simp [Op.bytesLess, Lib.compareBytes]
    | cons y b =>
      unfold Op.bytesLess Lib.compareBytes
      rw [ih]
      simp only [UInt8.lt_iff_toNat_lt]
      rcases Nat.lt_trichotomy x.toNat y.toNat with h | h | h
      · simp [h]
      · have hxy : x = y := UInt8.toNat_inj.1 h
        subst hxy
        simp
      · have hne : ¬ x = y := fun e => by subst e; omega
        have hn : ¬ x.toNat < y.toNat := by omega
        simp [hn, h, hne]

theorem st_toList (l : List UInt8) : (st l).toList = l := by simp [st]
theorem leq_cmp (a b : List UInt8) : (Op.bytesLess (st a).toList (st b).toList || (st a).toList == (st b).toList) = decide (Lib.compareBytes a b ≤ 0) := by
  rw [st_toList, st_toList, bytesLess_cmp]
  by_cases h : a = b
  · have := (cmp_eq0 a b).2 h
    subst h
    simp [this]
  · have h0 : ¬ Lib.compareBytes a b = 0 := fun e => h ((cmp_eq0 a b).1 e)
    have hb : (a == b) = false := by simpa using h
    rw [hb, Bool.or_false, decide_eq_decide]
    omega

end Go.Proofs.Ytmljfjmceakahaa
