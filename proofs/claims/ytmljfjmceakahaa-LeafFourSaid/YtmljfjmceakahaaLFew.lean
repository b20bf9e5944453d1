/- Layer 4's helper few. -/
import Derived.Test.YtmljfjmceakahaaLeaf
namespace Go.Proofs.Ytmljfjmceakahaa
open Go.RowKit
set_option linter.unusedVariables false
set_option linter.unusedSimpArgs false

def LFew (es : List LE) : Prop := es.length ≤ 30 ∧ ∀ e ∈ es, e.key.length ≤ 120 ∧ e.val.length ≤ 600
def LFewP (es : List LE) (w : World) (e : Ending) (w' : World) : Prop := ∃ b, e = .returned (.bool b) ∧ (b = true ↔ LFew es) ∧ Below w.heap.size w w'

set_option maxRecDepth 100000 in
theorem lfew_any (w : World) (B : Nat) (A : Option Addr) (n c : Nat) (es : List LE) (h : LEnts w B A n es) (hBw : B ≤ w.heap.size) (hn : n ≤ 9223372036854775807) :
    Calls Try.prog 27 #[.slice A n c] w (LFewP es w) := by
  go_enter Try.func27, Try.ntmps27
  go_wp2_with fail
  go_loopw [3] (fun i wr => ∃ k : Nat, k ≤ n ∧ i = .int .i64 (k : Int) ∧ (∀ j e, j < k → es[j]? = some e → e.key.length ≤ 120 ∧ e.val.length ≤ 600) ∧ Below w.heap.size w wr) (fun i _ => n - (intOf i).toNat)
  case atStart => exact ⟨0, Nat.zero_le _, rfl, fun j e hj => by omega, Below.refl _ _⟩
  case round =>
    obtain ⟨k, hkn, rfl, hall, hbw⟩ := hrel
    by_cases hlt : k < n
    · obtain ⟨e, ad, Ak, nk, ck, Av, nv, cv, he, ho, rfl, hl⟩ := ((h.below (hbw.mono hBw)).at_ hlt)
      have hbs := hbw.size
      obtain ⟨a0, a1, _, _⟩ := hl.cells
      have hks := hl.2.2.2.2.2.1.len
      have hvs := hl.2.2.2.2.2.2.len
      have k0 : (0 : Int) ≤ (k : Int) := by omega
      have k1 : (k : Int) < (n : Int) := by omega
      clear hl
      have hno : (120 < nk ∨ 600 < nv) → ∀ w', Below w.heap.size w w' → LFewP es w (.returned (.bool false)) w' := fun hd w' hb => ⟨false, rfl, by
        refine ⟨fun hh => (by cases hh), fun hh => ?_⟩
        have := hh.2 _ (List.mem_of_getElem? he)
        rw [hks, hvs] at this
        omega, hb⟩
      by_cases d : 120 < nk
      · have dd : decide (120 < (nk : Int)) = true := decide_eq_true (by omega)
        have hpost := hno (.inl d)
        clear hall he hno hks hvs
        go_wp2_with fail
        go_ret
        exact hpost _ hbw
      · have dd : decide (120 < (nk : Int)) = false := decide_eq_false (by omega)
        by_cases d2 : 600 < nv
        · have dd2 : decide (600 < (nv : Int)) = true := decide_eq_true (by omega)
          have hpost := hno (.inr d2)
          clear hall he hno hks hvs
          go_wp2_with fail
          go_ret
          exact hpost _ hbw
        · have dd2 : decide (600 < (nv : Int)) = false := decide_eq_false (by omega)
          have hall2 : ∀ j e, j < k + 1 → es[j]? = some e → e.key.length ≤ 120 ∧ e.val.length ≤ 600 := by
            intro j e hj hje
            by_cases hjk : j < k
            · exact hall j e hjk hje
            · obtain rfl : j = k := by omega
              rw [he] at hje
              cases hje
              rw [hks, hvs]
              omega
          clear hall he hno hks hvs
          go_wp2_with fail
          refine ⟨⟨k + 1, hlt, by go_num, hall2, hbw⟩, by simp [intOf]; omega⟩
    · obtain rfl : k = n := by omega
      have hpost : ∀ w', Below w.heap.size w w' → LFewP es w (.returned (.bool (decide ((k : Int) ≤ 30)))) w' := fun w' hb => ⟨_, rfl, by
        rw [decide_eq_true_iff]
        refine ⟨fun hh => ⟨by rw [h.1]; omega, fun e he => ?_⟩, fun hh => by have := hh.1; rw [h.1] at this; omega⟩
        obtain ⟨i, hi, rfl⟩ := List.getElem_of_mem he
        exact hall i _ (by rw [h.1] at hi; exact hi) (List.getElem?_eq_getElem hi), hb⟩
      clear hall
      go_wp2_with fail
      go_ret
      exact hpost _ hbw

end Go.Proofs.Ytmljfjmceakahaa
