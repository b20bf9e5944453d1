/- BranchPuts' helper few. -/
import Derived.Test.YtmljfjmceakahaaBranch
import Derived.StillTailTactics
namespace Go.Proofs.Ytmljfjmceakahaa
open Go.RowKit
set_option linter.unusedVariables false
set_option linter.unusedSimpArgs false

def BFew (es : List (List UInt8 × Nat)) : Prop := es.length ≤ 30 ∧ ∀ e ∈ es, e.1.length ≤ 120
def BFewP (es : List (List UInt8 × Nat)) (w : World) (e : Ending) (w' : World) : Prop := ∃ b, e = .returned (.bool b) ∧ (b = true ↔ BFew es) ∧ Below w.heap.size w w'

set_option maxRecDepth 100000 in
theorem bfew_any (w : World) (B : Nat) (A : Option Addr) (n c : Nat) (es : List (List UInt8 × Nat)) (h : Ents w B A n es) (hBw : B ≤ w.heap.size) (hn : n ≤ 9223372036854775807) :
    Calls Try.prog 15 #[.slice A n c] w (BFewP es w) := by
  go_enter Try.func15, Try.ntmps15
  go_wp2_with fail
  go_loopw [3] (fun i wr => ∃ k : Nat, k ≤ n ∧ i = .int .i64 (k : Int) ∧ (∀ j e, j < k → es[j]? = some e → e.1.length ≤ 120) ∧ Below w.heap.size w wr) (fun i _ => n - (intOf i).toNat)
  case atStart => exact ⟨0, Nat.zero_le _, rfl, fun j e hj => by omega, Below.refl _ _⟩
  case round =>
    obtain ⟨k, hkn, rfl, hall, hbw⟩ := hrel
    by_cases hlt : k < n
    · obtain ⟨ky, x, ad, Ak, nk, ck, he, hx, rfl, hB, a0, a1, hsl⟩ := (h.at_ hlt)
      have hbs := hbw.size
      have b0 := (hbw.cell (p := ad.add (k * 2)) (by rw [block_of_add]; omega)).trans a0
      have k0 : (0 : Int) ≤ (k : Int) := by omega
      have k1 : (k : Int) < (n : Int) := by omega
      by_cases d : 120 < nk
      · have dd : decide (120 < (nk : Int)) = true := decide_eq_true (by omega)
        have hpost : ∀ w', Below w.heap.size w w' → BFewP es w (.returned (.bool false)) w' := fun w' hb => ⟨false, rfl, by
          refine ⟨fun hh => (by cases hh), fun hh => ?_⟩
          have := hh.2 _ (List.mem_of_getElem? he)
          rw [hsl.len] at this
          omega, hb⟩
        clear hall he a0 a1
        go_wp2_with fail
        go_ret
        exact hpost _ hbw
      · have dd : decide (120 < (nk : Int)) = false := decide_eq_false (by omega)
        have hall2 : ∀ j e, j < k + 1 → es[j]? = some e → e.1.length ≤ 120 := by
          intro j e hj hje
          by_cases hjk : j < k
          · exact hall j e hjk hje
          · obtain rfl : j = k := by omega
            rw [he] at hje
            cases hje
            rw [hsl.len]
            omega
        clear hall he a0 a1
        go_wp2_with fail
        refine ⟨⟨k + 1, hlt, by go_num, hall2, hbw⟩, by simp [intOf]; omega⟩
    · obtain rfl : k = n := by omega
      have hpost : ∀ w', Below w.heap.size w w' → BFewP es w (.returned (.bool (decide ((k : Int) ≤ 30)))) w' := fun w' hb => ⟨_, rfl, by
        rw [decide_eq_true_iff]
        refine ⟨fun hh => ⟨by rw [h.1]; omega, fun e he => ?_⟩, fun hh => by have := hh.1; rw [h.1] at this; omega⟩
        obtain ⟨i, hi, rfl⟩ := List.getElem_of_mem he
        exact hall i _ (by rw [h.1] at hi; exact hi) (List.getElem?_eq_getElem hi), hb⟩
      clear hall
      go_wp2_with fail
      go_ret
      exact hpost _ hbw

end Go.Proofs.Ytmljfjmceakahaa
