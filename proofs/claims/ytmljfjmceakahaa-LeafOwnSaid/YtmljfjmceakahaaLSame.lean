/- Layer 4's helper same, of entries that are the model's. -/
import Derived.Test.YtmljfjmceakahaaLEnt
namespace Go.Proofs.Ytmljfjmceakahaa
open Go.RowKit
set_option linter.unusedVariables false
set_option linter.unusedSimpArgs false

/-- string(b), its bytes behind a name. -/
theorem conv_o {w : World} {B : Nat} {A : Option Addr} {n c : Nat} {l : List UInt8} (h : Sl w B A n c l) (t : ByteArray) (ht : st l = t) : ∀ d, (convert 23 9 (.slice A n c)).run Try.prog (w.drewN d) = .ok (.string t) (w.drewN d) := fun d => by
  rw [← ht]
  exact string_of_sl (P := Try.prog) Try.underlying23 Try.underlying5 Try.underlying9 (h.below (w' := w.drewN d) (below_drewN (Below.refl _ _) d))

set_option maxRecDepth 100000 in
set_option maxHeartbeats 2000000 in
theorem lsame_any (w : World) (B D : Nat) (A : Option Addr) (n c : Nat) (A' : Option Addr) (c' : Nat) (es : List LE) (h : LEnts w B A n es) (h' : RLEnts w D A' n es) (hn : n ≤ 1000000) :
    Calls Try.prog 38 #[.slice A n c, .slice A' n c'] w fun e w' => e = .returned (.bool true) ∧ Below w.heap.size w w' := by
  have hnn : ((n : Int) != (n : Int)) = false := by simp
  go_enter Try.func38, Try.ntmps38
  go_wp2_with fail
  go_loopw [5] (fun i wr => ∃ k d : Nat, k ≤ n ∧ i = .int .i64 (k : Int) ∧ wr = w.drewN d) (fun i _ => n - (intOf i).toNat)
  case atStart => exact ⟨0, 0, Nat.zero_le _, rfl, rfl⟩
  case round =>
    obtain ⟨k, d, hkn, rfl, rfl⟩ := hrel
    by_cases hlt : k < n
    · obtain ⟨e, ad, Ak, nk, ck, Av, nv, cv, he, ho, rfl, hl⟩ := h.at_ hlt
      obtain ⟨e', ad', he', _, rfl, hr⟩ := h'.at_ hlt
      rw [he] at he'
      cases he'
      obtain ⟨a0, a1, a2, a3⟩ := hl.cells
      obtain ⟨b0, b1, b2, b3⟩ := hr.cells
      obtain ⟨tk, htk⟩ : ∃ t, st e.key = t := ⟨_, rfl⟩
      obtain ⟨tv, htv⟩ : ∃ t, st e.val = t := ⟨_, rfl⟩
      rw [htk] at b0
      rw [htv] at b1
      have hc1 := conv_o hl.2.2.2.2.2.1 tk htk
      have hc2 := conv_o hl.2.2.2.2.2.2 tv htv
      have f1 : (e.long != e.long) = false := by simp
      have f2 : ((e.first : Int) != (e.first : Int)) = false := by simp
      clear he htk htv hl hr
      go_wp2_with fail
      go_quiet (fail)
      go_wp2_with fail
      exact ⟨⟨k + 1, _, hlt, by go_num, rfl⟩, by simp [intOf]; omega⟩
    · obtain rfl : k = n := by omega
      go_wp2_with fail
      go_ret
      exact ⟨rfl, below_drewN (Below.refl _ _) _⟩

end Go.Proofs.Ytmljfjmceakahaa
