/- LeafFinds. -/
import Derived.Test.YtmljfjmceakahaaLEnt
import Derived.Test.YtmljfjmceakahaaLRaws
namespace Go.Proofs.Ytmljfjmceakahaa
open Go.RowKit
set_option linter.unusedVariables false
set_option linter.unusedSimpArgs false

set_option maxRecDepth 100000 in
set_option maxHeartbeats 2000000 in
theorem leafFinds_law (w : World) (A : Option Addr) (n c : Nat) (rs : List LE) (h : LEnts w w.heap.size A n rs) (hn : n ≤ 9223372036854775807)
    (A' : Option Addr) (n' c' : Nat) (key : List UInt8) (h' : Sl w w.heap.size A' n' c' key) :
    Calls Try.prog 10 #[.slice A n c, .slice A' n' c'] w fun e w' => e = .returned (.bool true) ∧ Below w.heap.size w w' := by
  go_enter Try.func10, Try.ntmps10
  go_wp2_with fail
  refine (awake4 w).mono ?_
  rintro e w1 ⟨rfl, hb1⟩
  have h1 := h.below hb1
  go_wp2_with fail
  refine (lfew_any _ _ _ _ _ _ h1 hb1.size hn).mono ?_
  rintro e w2 ⟨b, rfl, hb, hb2'⟩
  have hb2 := hb1.trans (hb2'.mono hb1.size)
  have h2 := h.below hb2
  clear h1 hb1 hb2'
  cases b with
  | false =>
    clear hb
    go_wp2_with fail
    go_ret
    exact ⟨rfl, hb2⟩
  | true =>
    obtain ⟨hf1, hf2⟩ := hb.1 rfl
    rw [h.1] at hf1
    clear hb
    by_cases hlong : 120 < n'
    · have hd : decide (120 < (n' : Int)) = true := decide_eq_true (by omega)
      go_wp2_with fail
      go_ret
      exact ⟨rfl, hb2⟩
    have hd : decide (120 < (n' : Int)) = false := decide_eq_false (by omega)
    go_wp2_with fail
    refine (lentries_any _ _ _ _ _ _ h2 hb2.size hf1 hf2 true).mono ?_
    rintro e w3 ⟨es, Al, cl, Aw, cw, rfl, hl30, hokl, hfs, hstr, hlc, hE, hRE, hb3'⟩
    have hb3 := hb2.trans (hb3'.mono hb2.size)
    obtain ⟨m, hm⟩ : ∃ m, es.length = m := ⟨_, rfl⟩
    rw [hm] at hl30 hE hRE hlc ⊢
    have hsh : LSh es := fun e he => by have := hfs e he; omega
    have HM := Lib.hid hm
    clear h2 hb2 hb3' hm
    obtain ⟨P, hP1, hP2, hP3⟩ := first_ex es key
    have hst := hstr rfl
    have hmono := hst.mono key
    rw [HM.out] at hP1 hP3 hmono
    have hP4 : ∀ j, P ≤ j → j < m → 0 ≤ lRk es key j := fun j h1 h2 => by
      rcases Int.lt_or_le (lRk es key j) 0 with h3 | h3
      · have := hmono P j h1 h2 h3
        have := hP3 (by omega)
        omega
      · exact h3
    have hfind := lfind_is w3 _ w.heap.size Al m cl es hE (Nat.le_refl _) (by omega) hst A' n' c' key (h'.below hb3) hb3.size P hP1 hP2 hP4
    have hrfind := fun W (hW : Below w3.heap.size w3 W) => rlfind_is W _ Aw m cw es (hRE.below hW) hW.size (by omega) key P hP1 hP2 hP3
    obtain ⟨R, hR⟩ : ∃ R, decide (P < m ∧ lRk es key P = 0) = R := ⟨_, rfl⟩
    rw [hR] at hfind hrfind
    clear hR hP2 hP3 hP4 hmono hst hstr hd
    go_wp2_with fail
    refine hfind.mono ?_
    rintro e w4 ⟨rfl, hb4⟩
    have hrf := hrfind _ hb4
    have hcv := string_of_sl (P := Try.prog) Try.underlying23 Try.underlying5 Try.underlying9 (h'.below (hb3.trans (hb4.mono hb3.size)))
    clear hfind hrfind
    go_wp2_with fail
    refine hrf.mono ?_
    rintro e w5 ⟨rfl, hb5'⟩
    have hb5 := hb3.trans ((hb4.trans (hb5'.mono hb4.size)).mono hb3.size)
    clear hcv hrf
    cases R with
    | false =>
      go_wp2_with fail
      go_ret
      exact ⟨rfl, hb5⟩
    | true =>
      go_wp2_with fail
      go_ret
      exact ⟨rfl, hb5⟩

end Go.Proofs.Ytmljfjmceakahaa
