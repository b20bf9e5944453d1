/- Package octet: reading numbers that were put in as few bytes as need be: slices.IndexFunc, slices.Equal, Err, Left, End, Var, Bytes. -/
import Derived.Test.YthnehmfpadahiaaOctV
import Derived.Deep.QuietTactic
import Derived.BigQuiet
namespace Go.Proofs.Ythnehmfpadahiaa
open Go.RowKit
set_option linter.unusedVariables false
set_option linter.unusedSimpArgs false

theorem err_any (w : World) (g : Nat) (l : List UInt8) (e : Int) (h : IsR w g l e) :
    Calls Try.prog 38 #[.pointer (some ⟨g, 0, none⟩)] w fun r w' => r = .returned (.int .i64 e) ∧ w = w' := by
  obtain ⟨A, n, c, h0, h1⟩ := h.cells
  go_enter Try.func38, Try.ntmps38
  go_wp2
  go_ret
  exact ⟨rfl, rfl⟩
theorem left_any (w : World) (g : Nat) (l : List UInt8) (e : Int) (h : IsR w g l e) :
    Calls Try.prog 39 #[.pointer (some ⟨g, 0, none⟩)] w fun r w' => r = .returned (.int .i64 (l.length : Nat)) ∧ w = w' := by
  obtain ⟨A, n, c, hb, hs⟩ := h
  have h0 := blk_cell hb 0
  have hl := hs.len
  subst hl
  go_enter Try.func39, Try.ntmps39
  go_wp2
  go_ret
  exact ⟨rfl, rfl⟩
def endE (l : List UInt8) (e : Int) : Int := if e ≠ 0 then e else if l = [] then 0 else 12
theorem end_any (w : World) (g : Nat) (l : List UInt8) (e : Int) (h : IsR w g l e) :
    Calls Try.prog 37 #[.pointer (some ⟨g, 0, none⟩)] w fun r w' => r = .returned (.int .i64 (endE l e)) ∧ w = w' := by
  by_cases he : e = 0
  · subst he
    by_cases hl : l = []
    · subst hl
      go_enter Try.func37, Try.ntmps37
      go_wp2_with (first
        | (go_at_call 38; refine (err_any _ _ _ _ h).mono ?_; rintro r w' ⟨rfl, rfl⟩)
        | (go_at_call 39; refine (left_any _ _ _ _ h).mono ?_; rintro r w' ⟨rfl, rfl⟩))
      go_ret
      exact ⟨by simp [endE], rfl⟩
    · have hpos : 0 < l.length := by cases l with | nil => exact absurd rfl hl | cons a l => simp
      have hE : endE l 0 = 12 := by simp [endE, hl]
      rw [hE]
      clear hl hE
      go_enter Try.func37, Try.ntmps37
      go_wp2_with (first
        | (go_at_call 38; refine (err_any _ _ _ _ h).mono ?_; rintro r w' ⟨rfl, rfl⟩)
        | (go_at_call 39; refine (left_any _ _ _ _ h).mono ?_; rintro r w' ⟨rfl, rfl⟩))
      go_ret
      exact ⟨rfl, rfl⟩
  · have hb : (e != 0) = true := by simpa using he
    have hE : endE l e = e := by simp [endE, he]
    rw [hE]
    clear hE he
    go_enter Try.func37, Try.ntmps37
    go_wp2_with (first | (go_at_call 38; refine (err_any _ _ _ _ h).mono ?_; rintro r w' ⟨rfl, rfl⟩))
    go_ret
    exact ⟨rfl, rfl⟩

/-- Where the first byte below 128 stands; 0: there is none. -/
def fstLow (l : List UInt8) : Nat := match l.findIdx? (fun c => c < 128) with | some i => i + 1 | none => 0

theorem fstLow_none (l : List UInt8) (h : ∀ (i : Nat) (c : UInt8), l[i]? = some c → ¬ c < 128) : fstLow l = 0 := by
  have : l.findIdx? (fun c => decide (c < 128)) = none := by
    rw [List.findIdx?_eq_none_iff]
    intro c hc
    obtain ⟨i, hi⟩ := List.getElem?_of_mem hc
    simpa using h i c hi
  simp [fstLow, this]
theorem fstLow_at (l : List UInt8) (k : Nat) (c : UInt8) (h : ∀ (i : Nat) (c : UInt8), i < k → l[i]? = some c → ¬ c < 128) (hk : l[k]? = some c) (hc : c < 128) : fstLow l = k + 1 := by
  have : l.findIdx? (fun c => decide (c < 128)) = some k := by
    rw [List.findIdx?_eq_some_iff_getElem]
    obtain ⟨hlt, hg⟩ := List.getElem?_eq_some_iff.1 hk
    refine ⟨hlt, by simpa [hg] using hc, fun j hj => ?_⟩
    have := h j l[j] hj (List.getElem?_eq_getElem (by omega))
    simpa using this
  simp [fstLow, this]
theorem low_iff (c : UInt8) : c < 128 ↔ (c.toNat : Int) < 128 := by
  rw [UInt8.lt_iff_toNat_lt]
  simp
  omega

theorem low_yes (c : UInt8) (w : World) (h : c < 128) : Calls Try.prog 49 #[.int .u8 (c.toNat : Int)] w fun e w' => e = .returned (.bool true) ∧ w = w' := by
  have hc : (c.toNat : Int) < 128 := (low_iff c).1 h
  clear h
  go_enter Try.func49, Try.ntmps49
  go_wp2
  go_ret
  exact ⟨by simp, rfl⟩
theorem low_no (c : UInt8) (w : World) (h : ¬ c < 128) : Calls Try.prog 49 #[.int .u8 (c.toNat : Int)] w fun e w' => e = .returned (.bool false) ∧ w = w' := by
  have hc : ¬ (c.toNat : Int) < 128 := fun h' => h ((low_iff c).2 h')
  clear h
  go_enter Try.func49, Try.ntmps49
  go_wp2
  go_ret
  exact ⟨by simp, rfl⟩

theorem indexF_any (w : World) (B : Nat) (A : Option Addr) (n c : Nat) (l : List UInt8) (h : Sl w B A n c l) (hn : n ≤ 140737488355328) :
    Calls Try.prog 48 #[.slice A n c, .func (.func 49) #[] #[]] w fun e w' => e = .returned (.int .i64 ((fstLow l : Int) - 1)) ∧ w = w' := by
  have HN := Lib.hid h.len
  go_enter Try.func48, Try.ntmps48
  go_wp2
  go_loop [8] (fun i => ∃ k : Nat, k ≤ n ∧ i = .int .i64 k ∧ ∀ (j : Nat) (c : UInt8), j < k → l[j]? = some c → ¬ c < 128) (fun i => n - (intOf i).toNat)
  case atStart => exact ⟨0, Nat.zero_le _, rfl, fun j c hj => by omega⟩
  case round =>
    obtain ⟨k, hk, rfl, hall⟩ := hrel
    by_cases hlt : k < n
    · obtain ⟨ad, b, rfl, _, hb, hcell⟩ := h.get hlt
      have k0 : (0 : Int) ≤ (k : Int) := by omega
      have k1 : (k : Int) < (n : Int) := by omega
      have HB := Lib.hid hb
      clear hb
      have HALL := Lib.hid hall
      clear hall
      by_cases hlow : b < 128
      · have hf := fstLow_at l k b HALL.out HB.out hlow
        have HF := Lib.hid hf
        clear hf
        go_wp2_with (first | (go_at_call 49; refine (low_yes b _ hlow).mono ?_; rintro e w' ⟨rfl, rfl⟩))
        go_ret
        exact ⟨ret_int (by rw [HF.out]; omega), rfl⟩
      · have HL := Lib.hid hlow
        clear hlow
        go_wp2_with (first | (go_at_call 49; refine (low_no b _ HL.out).mono ?_; rintro e w' ⟨rfl, rfl⟩))
        refine ⟨⟨k + 1, by omega, by go_num, fun j c hj hc => ?_⟩, by simp [intOf]; omega⟩
        by_cases e : j = k
        · subst e
          rw [HB.out] at hc
          obtain rfl := Option.some.inj hc
          exact HL.out
        · exact HALL.out j c (by omega) hc
    · have hf := fstLow_none l (fun i c hi => hall i c (by have := (List.getElem?_eq_some_iff.1 hi).1; have := HN.out; omega) hi)
      have HF := Lib.hid hf
      clear hf hall
      go_wp2
      go_ret
      exact ⟨ret_int (by rw [HF.out]; omega), rfl⟩

theorem equalS_any (w : World) (B D : Nat) (A : Option Addr) (n c : Nat) (l : List UInt8) (A' : Option Addr) (n' c' : Nat) (l' : List UInt8) (h : Sl w B A n c l) (h' : Sl w D A' n' c' l') (hn : n ≤ 140737488355328) :
    Calls Try.prog 51 #[.slice A n c, .slice A' n' c'] w fun e w' => e = .returned (.bool (decide (l = l'))) ∧ Below w.heap.size w w' := by
  by_cases hne : n = n'
  · subst hne
    have HL := Lib.hid h.len
    have HL' := Lib.hid h'.len
    go_enter Try.func51, Try.ntmps51
    go_wp2
    go_loopw [13] (fun i wr => ∃ k : Nat, k ≤ n ∧ i = .int .i64 k ∧ l.take k = l'.take k ∧ Below w.heap.size w wr) (fun i _ => n - (intOf i).toNat)
    case atStart => exact ⟨0, Nat.zero_le _, rfl, rfl, Below.refl _ _⟩
    case round =>
      obtain ⟨k, hk, rfl, heq, hbw⟩ := hrel
      have HEQ := Lib.hid heq
      clear heq
      by_cases hlt : k < n
      · obtain ⟨ad, b, rfl, _, hb, hcell⟩ := (h.belowX hbw).get hlt
        obtain ⟨ad', b', rfl, _, hb', hcell'⟩ := (h'.belowX hbw).get hlt
        have k0 : (0 : Int) ≤ (k : Int) := by omega
        have k1 : (k : Int) < (n : Int) := by omega
        have HB := Lib.hid hb
        have HB' := Lib.hid hb'
        clear hb hb'
        by_cases e : b = b'
        · subst e
          go_wp2
          go_quiet (fail)
          go_wp2
          go_roundw
          case rel => exact ⟨k + 1, by omega, by go_num, by rw [take_snoc HB.out, take_snoc HB'.out, HEQ.out], below_drewN hbw _⟩
          case measure => simp [intOf]; omega
        · have hbb : ((b.toNat : Int) != (b'.toNat : Int)) = true := by
            simp only [bne_iff_ne, ne_eq, Int.natCast_inj]
            exact fun h => e (UInt8.toNat_inj.1 h)
          have hll : decide (l = l') = false := by
            apply decide_eq_false
            intro hll
            have h1 := HB.out
            rw [hll, HB'.out] at h1
            exact e (Option.some.inj h1).symm
          have HLL := Lib.hid hll
          clear hll e
          go_wp2
          go_quiet (fail)
          go_wp2
          go_ret
          exact ⟨by rw [HLL.out]; rfl, below_drewN hbw _⟩
      · have hks : k = n := by omega
        subst hks
        have hll : decide (l = l') = true := by
          apply decide_eq_true
          have := HEQ.out
          rwa [List.take_of_length_le (by rw [HL.out]; exact Nat.le_refl _), List.take_of_length_le (by rw [HL'.out]; exact Nat.le_refl _)] at this
        have HLL := Lib.hid hll
        clear hll
        go_wp2
        go_ret
        exact ⟨by rw [HLL.out]; rfl, hbw⟩
  · have hb : ((n : Int) != (n' : Int)) = true := by
      simp only [bne_iff_ne, ne_eq, Int.natCast_inj]; exact hne
    have hll : decide (l = l') = false := by
      apply decide_eq_false
      intro hll
      have h1 := h.len
      have h2 := h'.len
      subst hll
      omega
    rw [hll]
    clear hll hne
    go_enter Try.func51, Try.ntmps51
    go_wp2
    go_ret
    exact ⟨rfl, Below.refl _ _⟩

end Go.Proofs.Ythnehmfpadahiaa
