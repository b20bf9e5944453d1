/- Plain laws of numbers in as few bytes as need be. -/
import Derived.Test.YthnehmfpadahiaaOctZ
namespace Go.Proofs.Ythnehmfpadahiaa
open Go.RowKit
set_option linter.unusedVariables false
set_option linter.unusedSimpArgs false

theorem varB_eq (x : Nat) : varB x = (vCont 10 (x / 128)).reverse ++ [UInt8.ofNat (x % 128)] := by simp [varB]
theorem vCont_len (F y f : Nat) (h : y < 128 ^ f) : (vCont F y).length ≤ f := by
  induction F generalizing y f with
  | zero => simp [vCont]
  | succ F ih =>
    by_cases hy : y = 0
    · simp [vCont, hy]
    · rw [vCont_pos F y hy]
      cases f with
      | zero => simp at h; omega
      | succ f =>
        have := ih (y / 128) f (by rw [Nat.pow_succ] at h; exact Nat.div_lt_of_lt_mul (by rw [Nat.mul_comm]; exact h))
        simpa using this
theorem varB_len10 (x : Nat) (h : x < 18446744073709551616) : (varB x).length ≤ 10 := by
  have := vCont_len 10 (x / 128) 9 (by omega)
  rw [varB_eq]
  simp
  omega
theorem varB_pos (x : Nat) : 1 ≤ (varB x).length := by rw [varB_eq]; simp
theorem vCont_high (F y : Nat) (c : UInt8) (h : c ∈ vCont F y) : ¬ c < 128 := by
  induction F generalizing y with
  | zero => simp [vCont] at h
  | succ F ih =>
    by_cases hy : y = 0
    · simp [vCont, hy] at h
    · rw [vCont_pos F y hy] at h
      rcases List.mem_cons.1 h with rfl | h
      · rw [low_iff]
        have := high_byte y
        omega
      · exact ih _ h
theorem vCont_ne (F y : Nat) (hy : y ≠ 0) (h : y < 128 ^ F) : vCont F y ≠ [] := by
  cases F with
  | zero => simp at h; omega
  | succ F => rw [vCont_pos F y hy]; simp
theorem vCont_last (F y : Nat) (h : y < 128 ^ F) (c : UInt8) (hc : (vCont F y).getLast? = some c) : c ≠ 128 := by
  induction F generalizing y with
  | zero => simp [vCont] at hc
  | succ F ih =>
    by_cases hy : y = 0
    · simp [vCont, hy] at hc
    · rw [vCont_pos F y hy] at hc
      have hlt : y / 128 < 128 ^ F := by rw [Nat.pow_succ] at h; exact Nat.div_lt_of_lt_mul (by rw [Nat.mul_comm]; exact h)
      by_cases hz : y / 128 = 0
      · rw [hz, vCont_zero] at hc
        simp only [List.getLast?_singleton, Option.some.injEq] at hc
        subst hc
        intro he
        have h1 := high_byte y
        rw [he] at h1
        have : ((128 : UInt8).toNat : Int) = 128 := rfl
        omega
      · have hne := vCont_ne F (y / 128) hz hlt
        rw [List.getLast?_cons] at hc
        cases hl : (vCont F (y / 128)).getLast? with
        | none => rw [List.getLast?_eq_none_iff] at hl; exact absurd hl hne
        | some d => rw [hl] at hc; simp at hc; subst hc; exact ih _ hlt hl
theorem varB_head (x : Nat) (h : x < 18446744073709551616) (c : UInt8) (hc : (varB x).head? = some c) : c ≠ 128 := by
  rw [varB, List.head?_reverse, List.getLast?_cons] at hc
  cases hl : (vCont 10 (x / 128)).getLast? with
  | none =>
    rw [hl] at hc
    simp at hc
    subst hc
    intro he
    have h1 := low_byte x
    rw [he] at h1
    have : ((128 : UInt8).toNat : Int) = 128 := rfl
    omega
  | some d =>
    rw [hl] at hc
    simp at hc
    subst hc
    exact vCont_last 10 (x / 128) (Nat.lt_of_le_of_lt (Nat.div_le_self _ _) (by omega)) d hl

theorem v7_high (y : Nat) (h : y < 18446744073709551616) : v7 (y / 128) (UInt8.ofNat (y % 128 + 128)) = y := by
  have h1 := high_byte y
  unfold v7
  omega
theorem v7_low (y : Nat) (h : y < 18446744073709551616) : v7 (y / 128) (UInt8.ofNat (y % 128)) = y := by
  have h1 := low_byte y
  unfold v7
  omega
theorem rvX_cont (F y : Nat) (h : y < 128 ^ F) (h2 : y < 18446744073709551616) : rvX (vCont F y).reverse = y := by
  induction F generalizing y with
  | zero => simp at h; subst h; rfl
  | succ F ih =>
    by_cases hy : y = 0
    · simp [vCont, hy, rvX]
    · rw [vCont_pos F y hy, List.reverse_cons, rvX_snoc, ih _ (by rw [Nat.pow_succ] at h; exact Nat.div_lt_of_lt_mul (by rw [Nat.mul_comm]; exact h)) (by omega), v7_high y h2]
theorem rvX_var (x : Nat) (h : x < 18446744073709551616) : rvX (varB x) = x := by
  rw [varB_eq, rvX_snoc, rvX_cont 10 _ (Nat.lt_of_le_of_lt (Nat.div_le_self _ _) (by omega)) (by omega), v7_low x h]

/-- All bytes ahead of the last one are high, the last one is low. -/
theorem varB_at (x i : Nat) (c : UInt8) (h : (varB x)[i]? = some c) : (c < 128 ↔ i + 1 = (varB x).length) := by
  have hlt := (List.getElem?_eq_some_iff.1 h).1
  rw [varB_eq] at h hlt ⊢
  rw [List.length_append, List.length_singleton, List.length_reverse] at hlt ⊢
  by_cases hi : i < (vCont 10 (x / 128)).length
  · rw [List.getElem?_append_left (by simpa using hi)] at h
    have := vCont_high 10 (x / 128) c (by
      have := List.mem_of_getElem? h
      simpa using this)
    constructor
    · intro hh; exact absurd hh this
    · intro hh; omega
  · have hi' : i = (vCont 10 (x / 128)).length := by omega
    subst hi'
    rw [List.getElem?_append_right (by simp)] at h
    simp at h
    subst h
    have h1 := low_byte x
    rw [low_iff]
    constructor
    · intro _; rfl
    · intro _; omega

theorem fstLow_var (x : Nat) (rest : List UInt8) (h : x < 18446744073709551616) : rvN (varB x ++ rest) = (varB x).length := by
  have h10 := varB_len10 x h
  have hp := varB_pos x
  obtain ⟨k, hk⟩ : ∃ k, (varB x).length = k + 1 := ⟨(varB x).length - 1, by omega⟩
  have hlt : k < (varB x).length := by omega
  unfold rvN
  rw [hk]
  refine fstLow_at _ k (varB x)[k] (fun i c hi hc => ?_) ?_ ?_
  · rw [List.getElem?_take_of_lt (by omega), List.getElem?_append_left (by omega)] at hc
    intro hlow
    have := (varB_at x i c hc).1 hlow
    omega
  · rw [List.getElem?_take_of_lt (by omega), List.getElem?_append_left (by omega)]
    exact List.getElem?_eq_getElem hlt
  · exact (varB_at x k _ (List.getElem?_eq_getElem hlt)).2 (by omega)

theorem var_back (x : Nat) (rest : List UInt8) (h : x < 18446744073709551616) : varX (varB x ++ rest) 0 = x ∧ varR (varB x ++ rest) 0 = rest ∧ varE (varB x ++ rest) 0 = 0 := by
  have hN := fstLow_var x rest h
  have hp := varB_pos x
  have ht : (varB x ++ rest).take (varB x).length = varB x := by simp
  have hok : rvOk (varB x ++ rest) := by
    unfold rvOk
    rw [hN, ht, rvX_var x h]
    exact ⟨by omega, rfl⟩
  refine ⟨?_, ?_, ?_⟩
  · simp only [varX, hok, hN, ht, rvX_var x h]; simp
  · simp only [varR, hok, hN]; simp
  · simp [varE, hok]

theorem fstLow_pos_of (l : List UInt8) (c : UInt8) (h : c ∈ l) (hc : c < 128) : fstLow l ≠ 0 := by
  unfold fstLow
  cases hf : l.findIdx? (fun c => decide (c < 128)) with
  | none => rw [List.findIdx?_eq_none_iff] at hf; have := hf c h; simp at this; exact absurd hc (by simpa using this)
  | some i => simp

theorem var_longer (x k : Nat) (h : x < 18446744073709551616) : varX (List.replicate (k + 1) 128 ++ varB x) 0 = 0 ∧ varE (List.replicate (k + 1) 128 ++ varB x) 0 = 11 := by
  have hno : ¬ rvOk (List.replicate (k + 1) 128 ++ varB x) := by
    rintro ⟨h0, he⟩
    have hv := rvX_lt ((List.replicate (k + 1) 128 ++ varB x).take (rvN (List.replicate (k + 1) 128 ++ varB x)))
    refine varB_head _ hv 128 ?_ rfl
    rw [he]
    obtain ⟨m, hm⟩ : ∃ m, rvN (List.replicate (k + 1) 128 ++ varB x) = m + 1 := ⟨rvN (List.replicate (k + 1) 128 ++ varB x) - 1, by omega⟩
    rw [hm, List.replicate_succ]
    simp
  have hne : ¬ (rvN (List.replicate (k + 1) 128 ++ varB x) = 0 ∧ (List.replicate (k + 1) 128 ++ varB x).length < 10) := by
    rintro ⟨h1, h2⟩
    unfold rvN at h1
    rw [List.take_of_length_le (by omega)] at h1
    have hp := varB_pos x
    obtain ⟨j, hj⟩ : ∃ j, (varB x).length = j + 1 := ⟨(varB x).length - 1, by omega⟩
    have hlt : j < (varB x).length := by omega
    exact fstLow_pos_of _ (varB x)[j] (List.mem_append_right _ (List.getElem_mem hlt)) ((varB_at x j _ (List.getElem?_eq_getElem hlt)).2 (by omega)) h1
  refine ⟨by simp [varX, hno], ?_⟩
  unfold varE
  rw [if_neg (by simp), if_neg hno, if_neg hne]

theorem var_shorter (x n : Nat) (h : x < 18446744073709551616) (hn : n + 1 = (varB x).length) : varX ((varB x).take n) 0 = 0 ∧ varE ((varB x).take n) 0 = 10 := by
  have h10 := varB_len10 x h
  have hl : ((varB x).take n).length = n := by rw [List.length_take]; omega
  have hN : rvN ((varB x).take n) = 0 := by
    unfold rvN
    rw [List.take_of_length_le (by omega)]
    refine fstLow_none _ (fun i c hc hlow => ?_)
    have hi := (List.getElem?_eq_some_iff.1 hc).1
    rw [hl] at hi
    rw [List.getElem?_take_of_lt hi] at hc
    have := (varB_at x i c hc).1 hlow
    omega
  have hno : ¬ rvOk ((varB x).take n) := fun hh => hh.1 hN
  refine ⟨by simp [varX, hno], ?_⟩
  unfold varE
  rw [if_neg (by simp), if_neg hno, if_pos ⟨hN, by omega⟩]

end Go.Proofs.Ythnehmfpadahiaa
