/- BranchLeads. -/
import Derived.Test.YtmljfjmceakahaaLawBRoom
namespace Go.Proofs.Ytmljfjmceakahaa
open Go.RowKit
set_option linter.unusedVariables false
set_option linter.unusedSimpArgs false

/-- string(b), its bytes behind a name. -/
theorem conv_o {w : World} {B : Nat} {A : Option Addr} {n c : Nat} {l : List UInt8} (h : Sl w B A n c l) (t : ByteArray) (ht : st l = t) : ∀ d, (convert 23 9 (.slice A n c)).run Try.prog (w.drewN d) = .ok (.string t) (w.drewN d) := fun d => by
  rw [← ht]
  exact string_of_sl (P := Try.prog) Try.underlying23 Try.underlying5 Try.underlying9 (h.below (w' := w.drewN d) (below_drewN (Below.refl _ _) d))
theorem gtr_cmp (a b : List UInt8) : (Op.bytesLess (st a).toList (st b).toList || (st a).toList == (st b).toList) = decide (Lib.compareBytes a b ≤ 0) := leq_cmp a b

set_option maxRecDepth 100000 in
set_option maxHeartbeats 1000000 in
theorem branchLeads_law (w : World) (A : Option Addr) (n c : Nat) (rs : List (List UInt8 × Nat)) (h : Ents w w.heap.size A n rs) (hn : n ≤ 9223372036854775807)
    (A' : Option Addr) (n' c' : Nat) (key : List UInt8) (h' : Sl w w.heap.size A' n' c' key) :
    Calls Try.prog 6 #[.slice A n c, .slice A' n' c'] w fun e w' => e = .returned (.bool true) ∧ Below w.heap.size w w' := by
  go_enter Try.func6, Try.ntmps6
  go_wp2_with fail
  refine (awake5 w).mono ?_
  rintro e w1 ⟨rfl, hb1⟩
  have h1 := h.below hb1
  go_wp2_with fail
  refine (bfew_any _ _ _ _ _ _ h1 hb1.size hn).mono ?_
  rintro e w2 ⟨b, rfl, hb, hb2'⟩
  have hb2 := hb1.trans (hb2'.mono hb1.size)
  have h2 := h.below hb2
  have hk2 := h'.below hb2
  clear h1 hb1 hb2'
  cases b with
  | false =>
    clear hb
    go_wp2_with fail
    go_ret
    exact ⟨rfl, hb2⟩
  | true =>
    obtain ⟨hf1, hf2⟩ := hb.1 rfl
    rw [h.1] at hf1
    clear hb
    by_cases hlong : 120 < n'
    · have hd : decide (120 < (n' : Int)) = true := decide_eq_true (by omega)
      go_wp2_with fail
      go_ret
      exact ⟨rfl, hb2⟩
    have hd : decide (120 < (n' : Int)) = false := decide_eq_false (by omega)
    go_wp2_with fail
    refine (entries_any _ _ _ _ _ _ h2 hb2.size hf1 hf2 true).mono ?_
    rintro e w3 ⟨es, Al, cl, Aw, cw, rfl, hl30, h32, hk120, hE, hRE, hb3'⟩
    have hb3 := hb2.trans (hb3'.mono hb2.size)
    obtain ⟨m, hm⟩ : ∃ m, es.length = m := ⟨_, rfl⟩
    rw [hm] at hl30 hE hRE ⊢
    have HM := Lib.hid hm
    clear h2 hb2 hb3' hm hRE hd hk2
    go_wp2_with fail
    refine (bright_any _ _ _ _ _ _ hE (Nat.le_refl _) (by omega) 4096).mono ?_
    rintro e w4 ⟨rb, rfl, hrb, hb4'⟩
    have hb4 := hb3.trans (hb4'.mono hb3.size)
    have hE4 := hE.below hb4'
    have hz4 := hb4'.size
    have hk4 := h'.below hb4
    clear hE hb3 hb4'
    generalize w3.heap.size = B4 at hE4 hz4
    cases rb with
    | false =>
      clear hrb
      go_wp2_with fail
      go_ret
      exact ⟨rfl, hb4⟩
    | true =>
      have hR := hrb.1 rfl
      have hst := hR.strict key
      have h0 := hR.first key
      rw [HM.out] at hst
      have hm2 : 2 ≤ m := by have := hR.2.2.1; rw [HM.out] at this; exact this
      clear hrb
      go_wp2_with fail
      refine (bfind_any _ _ _ _ _ _ _ hE4 hz4 (by omega) (by omega) _ _ _ _ hk4 hb4.size hst h0).mono ?_
      rintro e w5 ⟨i, rfl, hi, hi1, hi2, hb5'⟩
      have hb5 := hb4.trans (hb5'.mono hb4.size)
      have hE5 := hE4.below (hb5'.mono hz4)
      have hk5 := h'.below hb5
      have hz5 := Nat.le_trans hz4 hb5'.size
      clear hE4 hk4 hb4 hb5' hst h0 hR
      obtain ⟨ky, x, ad, Ak, nk, ck, he, hx, rfl, hB, a0, a1, hsl⟩ := hE5.at_ hi
      obtain ⟨tk, htk⟩ : ∃ tk, st key = tk := ⟨_, rfl⟩
      obtain ⟨ts, hts⟩ : ∃ ts, st ky = ts := ⟨_, rfl⟩
      have hcv := conv_o hsl ts hts
      have hcw := conv_o hk5 tk htk
      have hle := leq_cmp ky key
      rw [htk, hts] at hle
      have HTK := Lib.hid htk
      clear htk hts
      rw [decide_eq_true (by have := hi1; simpa [bRk, he] using this : Lib.compareBytes ky key ≤ 0)] at hle
      have hg1 : decide (m ≤ i) = false := decide_eq_false (by omega)
      have hg2 : decide ((i : Int) < 0) = false := decide_eq_false (by omega)
      clear a1 he hi1
      go_wp2_with fail
      go_quiet (fail)
      go_wp2_with fail
      clear hcv hle hg1 hg2 a0 hcw
      by_cases him : i + 1 = m
      · have hw1 : IntKind.i64.wrap ((i : Int) + 1) = (m : Int) := by rw [IntWalk.i64_in _ (by omega)]; omega
        have hw2 : ((i : Int) + 1) = (m : Int) := by omega
        have hbe : ((m : Int) == (m : Int)) = true := by simp
        clear him
        go_quiet (fail)
        go_wp2
        go_ret
        exact ⟨rfl, below_drewN (below_drewN hb5 _) _⟩
      · obtain ⟨ky2, x2, ad', Ak2, nk2, ck2, he2, hx2, had, hB2, b0, b1, hsl2⟩ := hE5.at_ (show i + 1 < m by omega)
        cases had
        obtain ⟨ts2, hts2⟩ : ∃ ts, st ky2 = ts := ⟨_, rfl⟩
        have hcv := conv_o hsl2 ts2 hts2
        have hcw := conv_o hk5 tk HTK.out
        have hle := leq_cmp ky2 key
        rw [HTK.out, hts2] at hle
        clear hts2
        have hpos := hi2 (i + 1) (by omega) (by omega)
        rw [decide_eq_false (by have := hpos; simp only [bRk, he2] at this; omega : ¬ Lib.compareBytes ky2 key ≤ 0)] at hle
        obtain ⟨j, hj⟩ : ∃ j, i + 1 = j := ⟨_, rfl⟩
        rw [hj] at b0
        have hjm : j < m := by omega
        have hw1 : IntKind.i64.wrap ((i : Int) + 1) = (j : Int) := by rw [IntWalk.i64_in _ (by omega)]; omega
        have hw2 : ((i : Int) + 1) = (j : Int) := by omega
        have hbe : ((j : Int) == (m : Int)) = false := by simp; omega
        have hbi : ((i : Int) + 1 == (m : Int)) = false := by simp; omega
        clear b1 he2 hpos hj him
        go_quiet (fail)
        go_wp2
        go_ret
        exact ⟨rfl, below_drewN (below_drewN hb5 _) _⟩

end Go.Proofs.Ytmljfjmceakahaa
