/- rubricatorref04: Long, Fill. -/
import Derived.Test.YtmljfjmceakahaaLRef
namespace Go.Proofs.Ytmljfjmceakahaa
open Go.RowKit
set_option linter.unusedVariables false
set_option linter.unusedSimpArgs false

theorem rlong_any (w : World) (e : LE) (tk tv : ByteArray) (hk : tk.size = e.key.length) (hv : tv.size = e.val.length) (h1 : e.key.length ≤ 1000000) (h2 : e.val.length ≤ 1000000) :
    Calls Try.prog 36 #[rVal e tk tv] w fun r w' => r = .returned (.int .i64 (lLong e : Nat)) ∧ Below w.heap.size w w' := by
  obtain ⟨k, v, l, f⟩ := e
  obtain ⟨L, hL⟩ : ∃ L, lLong ⟨k, v, l, f⟩ = L := ⟨_, rfl⟩
  rw [hL]
  simp only [rVal]
  simp only at hk hv h1 h2
  obtain ⟨nk, hnk⟩ : ∃ nk, k.length = nk := ⟨_, rfl⟩
  obtain ⟨nv, hnv⟩ : ∃ nv, v.length = nv := ⟨_, rfl⟩
  rw [hnk] at hk h1
  rw [hnv] at hv h2
  by_cases hf : 0 < f
  · have hd : decide ((0 : Int) < (f : Int)) = true := decide_eq_true (by omega)
    have hLe : L = 10 + nk := by rw [← hL, ← hnk]; simp [lLong, hf]
    have HL := Lib.hid hLe
    clear hL hv hLe hnk hnv
    go_enter Try.func36, Try.ntmps36
    go_wp2
    go_ret
    rw [HL.out]
    exact ⟨by go_num, (Below.refl _ _).alloc (Nat.le_refl _) _⟩
  · have hd : decide ((0 : Int) < (f : Int)) = false := decide_eq_false (by omega)
    have hLe : L = 4 + nk + nv := by rw [← hL, ← hnk, ← hnv]; simp [lLong, hf]
    have HL := Lib.hid hLe
    clear hL hLe hnk hnv
    go_enter Try.func36, Try.ntmps36
    go_wp2
    go_ret
    rw [HL.out]
    exact ⟨by go_num, (Below.refl _ _).alloc (Nat.le_refl _) _⟩

set_option maxRecDepth 100000 in
theorem rlfill_any (w : World) (B : Nat) (A : Option Addr) (n c : Nat) (es : List LE) (h : RLEnts w B A n es) (hBw : B ≤ w.heap.size) (hn : n ≤ 1000000) (hk : LSh es) :
    Calls Try.prog 34 #[.slice A n c] w fun e w' => e = .returned (.int .i64 (lFill es : Nat)) ∧ Below w.heap.size w w' := by
  go_enter Try.func34, Try.ntmps34
  go_wp2_with fail
  go_loopw [3, 4] (fun f i wr => ∃ k F : Nat, k ≤ n ∧ f = .int .i64 (F : Int) ∧ i = .int .i64 (k : Int) ∧ Hid (F = lFill (es.take k)) ∧ F ≤ 4 + k * 2000012 ∧ Below w.heap.size w wr) (fun _ i _ => n - (intOf i).toNat)
  case atStart => exact ⟨0, 4, Nat.zero_le _, rfl, rfl, Lib.hid (by simp [lFill]), by omega, Below.refl _ _⟩
  case round =>
    obtain ⟨k, F, hkn, rfl, rfl, hF, hFb, hbw⟩ := hrel
    by_cases hlt : k < n
    · obtain ⟨e, ad, he, ho, rfl, hl⟩ := (h.below (hbw.mono hBw)).at_ hlt
      have hbs := hbw.size
      obtain ⟨a0, a1, a2, a3⟩ := hl.cells
      have hsh := hk _ (List.mem_of_getElem? he)
      have hcell := fun W => rlong_any W e (st e.key) (st e.val) (st_size _) (st_size _) hsh.1 hsh.2
      have hlong := lLong_le e hsh
      have hFk : F + 2 + lLong e = lFill (es.take (k + 1)) := by rw [lFill_take he, ← hF.out]
      obtain ⟨L, hL⟩ : ∃ L, lLong e = L := ⟨_, rfl⟩
      rw [hL] at hcell hlong hFk
      have HFk := Lib.hid hFk
      generalize st e.key = tk at a0 hcell
      generalize st e.val = tv at a1 hcell
      clear hFk he hL hl
      go_wp2_with fail
      refine (hcell _).mono ?_
      rintro r w1 ⟨rfl, hb1⟩
      have hb2 := hbw.trans (hb1.mono hbw.size)
      clear hcell a0 a1 a2 a3
      go_wp2_with fail
      refine ⟨⟨k + 1, F + 2 + L, hlt, by go_num, by go_num, HFk, by omega, hb2⟩, by simp [intOf]; omega⟩
    · obtain rfl : k = n := by omega
      go_wp2_with fail
      go_ret
      have hFF := hF.out
      rw [List.take_of_length_le (by rw [h.1]; exact Nat.le_refl _)] at hFF
      subst hFF
      exact ⟨rfl, hbw⟩

end Go.Proofs.Ytmljfjmceakahaa
