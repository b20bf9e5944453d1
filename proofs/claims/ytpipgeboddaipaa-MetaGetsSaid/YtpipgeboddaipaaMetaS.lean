/- A page of which one byte is another one tells nothing: the plain law. -/
import Derived.Test.YtpipgeboddaipaaMetaA
namespace Go.Proofs.Ytpipgeboddaipaa
open Go.RowKit
set_option linter.unusedVariables false
set_option linter.unusedSimpArgs false

theorem xor_cancel {a b c : Nat} (h : a ^^^ c = b ^^^ c) : a = b := by
  have := congrArg (· ^^^ c) h
  simpa [Nat.xor_assoc] using this
theorem xor_zero' {a b : Nat} (h : a ^^^ b = 0) : a = b := xor_cancel (c := b) (by rw [h, Nat.xor_self])
theorem crc1_zero {x : Nat} (h : x < 4294967296) (h0 : crc1 x = 0) : x = 0 := by
  unfold crc1 at h0
  have h1 := xor_zero' h0
  have h2 : x % 2 = 0 ∨ x % 2 = 1 := by omega
  rcases h2 with h2 | h2 <;> rw [h2] at h1 <;> omega
theorem crc1_inj {a b : Nat} (ha : a < 4294967296) (hb : b < 4294967296) (h : crc1 a = crc1 b) : a = b := by
  have h0 : crc1 (a ^^^ b) = 0 := by rw [crc1_xor, h, Nat.xor_self]
  exact xor_zero' (crc1_zero (xor_lt32 ha hb) h0)
theorem crc4_inj {a b : Nat} (ha : a < 4294967296) (hb : b < 4294967296) (h : crc4 a = crc4 b) : a = b :=
  crc1_inj ha hb (crc1_inj (crc1_lt ha) (crc1_lt hb) (crc1_inj (crc1_lt (crc1_lt ha)) (crc1_lt (crc1_lt hb)) (crc1_inj (crc1_lt (crc1_lt (crc1_lt ha))) (crc1_lt (crc1_lt (crc1_lt hb))) h)))
theorem crc8_inj {a b : Nat} (ha : a < 4294967296) (hb : b < 4294967296) (h : crc8 a = crc8 b) : a = b := crc4_inj ha hb (crc4_inj (crc4_lt ha) (crc4_lt hb) h)
theorem xor_cancel' {a b c : Nat} (h : c ^^^ a = c ^^^ b) : a = b := xor_cancel (c := c) (by rw [Nat.xor_comm a, Nat.xor_comm b]; exact h)
theorem u8_lt32 (c : UInt8) : c.toNat < 4294967296 := by have := c.toNat_lt; omega
theorem crcRun_inj (l : List UInt8) : ∀ {x y : Nat}, x < 4294967296 → y < 4294967296 → crcRun x l = crcRun y l → x = y := by
  induction l with
  | nil => intro x y _ _ h; exact h
  | cons c l ih =>
    intro x y hx hy h
    have h1 := ih (crc8_lt (xor_lt32 hx (u8_lt32 c))) (crc8_lt (xor_lt32 hy (u8_lt32 c))) h
    exact xor_cancel (crc8_inj (xor_lt32 hx (u8_lt32 c)) (xor_lt32 hy (u8_lt32 c)) h1)
theorem crcRun_set (l : List UInt8) : ∀ (x j : Nat) (u v : UInt8), x < 4294967296 → l[j]? = some u → crcRun x (l.set j v) = crcRun x l → u = v := by
  induction l with
  | nil => intro x j u v _ h; simp at h
  | cons c l ih =>
    intro x j u v hx h he
    cases j with
    | zero =>
      simp at h
      subst h
      simp only [List.set_cons_zero] at he
      have h1 := crcRun_inj l (x := crc8 (x ^^^ v.toNat)) (y := crc8 (x ^^^ c.toNat)) (crc8_lt (xor_lt32 hx (u8_lt32 v))) (crc8_lt (xor_lt32 hx (u8_lt32 c))) he
      have h2 := xor_cancel' (crc8_inj (xor_lt32 hx (u8_lt32 v)) (xor_lt32 hx (u8_lt32 c)) h1)
      exact (UInt8.toNat_inj.1 h2).symm
    | succ j =>
      simp only [List.getElem?_cons_succ] at h
      exact ih (crc8 (x ^^^ c.toNat)) j u v (crc8_lt (xor_lt32 hx (u8_lt32 c))) h he
theorem crcOf_set (l : List UInt8) (j : Nat) (u v : UInt8) (h : l[j]? = some u) (he : crcOf (l.set j v) = crcOf l) : u = v := by
  refine crcRun_set l 4294967295 j u v (by omega) h ?_
  have h1 := crcRun_lt (x := 4294967295) l (by omega)
  have h2 := crcRun_lt (x := 4294967295) (l.set j v) (by omega)
  unfold crcOf at he
  omega

theorem be_inj : ∀ (l m : List UInt8), l.length = m.length → be l = be m → l = m := by
  intro l
  induction l with
  | nil => intro m h _; cases m with
    | nil => rfl
    | cons => simp at h
  | cons c l ih =>
    intro m h he
    cases m with
    | nil => simp at h
    | cons d m =>
      have hl : l.length = m.length := by simpa using h
      rw [be_first, be_first, hl] at he
      have b1 := be_lt l
      have b2 := be_lt m
      rw [hl] at b1
      have hcd : c.toNat = d.toNat := by
        have e1 : (c.toNat * 256 ^ m.length + be l) / 256 ^ m.length = c.toNat := by
          rw [Nat.mul_comm, Nat.mul_add_div (Nat.pow_pos (by omega)), Nat.div_eq_of_lt b1, Nat.add_zero]
        have e2 : (d.toNat * 256 ^ m.length + be m) / 256 ^ m.length = d.toNat := by
          rw [Nat.mul_comm, Nat.mul_add_div (Nat.pow_pos (by omega)), Nat.div_eq_of_lt b2, Nat.add_zero]
        rw [← e1, he, e2]
      rw [hcd] at he
      have h3 : be l = be m := by omega
      rw [ih m hl h3, UInt8.toNat_inj.1 hcd]

theorem mGet_some {l : List UInt8} {x : M4} (h : mGet l = (some x, 0)) : l.take 4 = [82, 85, 66, 49] ∧ numAt l 4 4 = l.length ∧ l.drop 32 = List.replicate (l.length - 32) 0 ∧ numAt l 28 4 = crcOf (l.take 28) ∧ 512 ≤ l.length ∧ l.length ≤ 4096 ∧ x = (numAt l 8 8, numAt l 16 4, numAt l 20 4, numAt l 24 4) ∧ MRight (numAt l 8 8) (numAt l 16 4) (numAt l 20 4) (numAt l 24 4) := by
  unfold mGet at h
  split at h
  · simp at h
  · rename_i h1
    split at h
    · simp at h
    · rename_i h2
      split at h
      · simp at h
      · rename_i h3
        split at h
        · simp at h
        · rename_i h4
          have h2' := Decidable.not_not.1 h2
          have h1' := Decidable.not_not.1 h1
          exact ⟨h2'.1, h2'.2.1, h2'.2.2, Decidable.not_not.1 h3, h1'.1, h1'.2, by simpa using h.symm, Decidable.not_not.1 h4⟩
theorem get_of_take {l m : List UInt8} {k j : Nat} (h : l.take k = m.take k) (hj : j < k) : l[j]? = m[j]? := by
  have := congrArg (fun x => x[j]?) h
  simpa [List.getElem?_take, hj] using this
theorem get_of_drop {l m : List UInt8} {k j : Nat} (h : l.drop k = m.drop k) (hj : k ≤ j) : l[j]? = m[j]? := by
  have := congrArg (fun x => x[j - k]?) h
  simpa [List.getElem?_drop, Nat.add_sub_cancel' hj] using this
theorem get_of_num {l m : List UInt8} {p s j : Nat} (hlen : l.length = m.length) (h : numAt l p s = numAt m p s) (h1 : p ≤ j) (h2 : j < p + s) : l[j]? = m[j]? := by
  have h3 := be_inj ((l.drop p).take s) ((m.drop p).take s) (by simp [hlen]) h
  have h4 := get_of_take h3 (j := j - p) (by omega)
  simpa [List.getElem?_drop, Nat.add_sub_cancel' h1] using h4
theorem take_set_ge {l : List UInt8} {k j : Nat} (v : UInt8) (h : k ≤ j) : (l.set j v).take k = l.take k := by
  rw [List.take_set]
  exact List.set_eq_of_length_le (by rw [List.length_take]; omega)
theorem numAt_set_far {l : List UInt8} {p s j : Nat} (v : UInt8) (h : j < p ∨ p + s ≤ j) : numAt (l.set j v) p s = numAt l p s := by
  unfold numAt
  rcases h with h | h
  · rw [List.drop_set_of_lt h]
  · rw [List.drop_set, if_neg (by omega), take_set_ge v (by omega)]

/-- What a page tells once holds no more with one byte another one. -/
theorem mGet_set (l : List UInt8) (x : M4) (h : mGet l = (some x, 0)) (j : Nat) (u v : UInt8) (hj : l[j]? = some u) (hne : u ≠ v) :
    mGet (l.set j v) = (none, 11) ∨ mGet (l.set j v) = (none, 14) := by
  obtain ⟨a1, a2, a3, a4, a5, a6, _⟩ := mGet_some h
  rcases mGet_cases (l.set j v) with ⟨t, e, m, f, hg, _⟩ | ⟨x', hg, hx⟩
  · obtain ⟨b1, b2, b3, b4, _⟩ := mGet_some hg
    have hlt := (List.getElem?_eq_some_iff.1 hj).1
    have hv : (l.set j v)[j]? = some v := List.getElem?_set_self hlt
    have hlen : (l.set j v).length = l.length := List.length_set
    have key : (l.set j v)[j]? = l[j]? := by
      by_cases c1 : j < 4
      · exact get_of_take (b1.trans a1.symm) c1
      · by_cases c2 : j < 8
        · exact get_of_num hlen (by rw [b2, a2, hlen]) (by omega) (by omega)
        · by_cases c3 : j < 28
          · exfalso
            rw [numAt_set_far v (by omega), a4, List.take_set] at b4
            exact hne (crcOf_set _ j u v (by rw [List.getElem?_take, if_pos c3]; exact hj) b4.symm)
          · by_cases c4 : j < 32
            · rw [take_set_ge v (by omega), ← a4] at b4
              exact get_of_num hlen b4 (by omega) (by omega)
            · exact get_of_drop (by rw [b3, a3, hlen]) (by omega)
    rw [hv, hj] at key
    exact absurd (Option.some.inj key).symm hne
  · rcases hx with rfl | rfl
    · exact .inl hg
    · exact .inr hg

end Go.Proofs.Ytpipgeboddaipaa
