/- BranchPuts. -/
import Derived.Test.YtmljfjmceakahaaLawBLeads
import Derived.Test.YtmljfjmceakahaaLawBGets
import Derived.Test.YtmljfjmceakahaaBRefP
namespace Go.Proofs.Ytmljfjmceakahaa
open Go.RowKit
set_option linter.unusedVariables false
set_option linter.unusedSimpArgs false

/-- Which entry a key leads to: there is one. -/
theorem find_ex {es : List (List UInt8 × Nat)} {S : Int} (hR : BRight es S) (key : List UInt8) : ∃ i, i < es.length ∧ bRk es key i ≤ 0 ∧ ∀ j, i < j → j < es.length → 0 < bRk es key j := by
  have h0 := hR.first key
  have hl := hR.2.2.1
  have : ∀ d n, n + d = es.length → 1 ≤ n → (∀ j, n ≤ j → j < es.length → 0 < bRk es key j) → ∃ i, i < es.length ∧ bRk es key i ≤ 0 ∧ ∀ j, i < j → j < es.length → 0 < bRk es key j := by
    intro d n
    induction n generalizing d with
    | zero => intro _ h; omega
    | succ n ih =>
      intro hd _ hall
      rcases Int.lt_or_le 0 (bRk es key n) with h | h
      · rcases Nat.eq_zero_or_pos n with h1 | h1
        · subst h1; omega
        · refine ih (d + 1) (by omega) h1 (fun j hj hjl => ?_)
          rcases Nat.lt_or_ge n j with h2 | h2
          · exact hall j (by omega) hjl
          · obtain rfl : j = n := by omega
            exact h
      · exact ⟨n, by omega, h, fun j hj hjl => hall j (by omega) hjl⟩
  exact this 0 es.length (by omega) (by omega) (fun j hj hjl => by omega)

theorem rfind_is (w : World) (B : Nat) (A : Option Addr) (n c : Nat) (es : List (List UInt8 × Nat)) (h : REnts w B A n es) (hBw : B ≤ w.heap.size) (hn : n ≤ 1000000) (key : List UInt8)
    (i : Nat) (hi : i < n) (h1 : bRk es key i ≤ 0) (h2 : ∀ j, i < j → j < n → 0 < bRk es key j) :
    Calls Try.prog 24 #[.slice A n c, .string (st key)] w fun e w' => e = .returned (.int .i64 (i : Int)) ∧ Below w.heap.size w w' := by
  refine (rfind_any w B A n c es h hBw hn key).mono ?_
  rintro e w' ⟨p, rfl, hp, hp2, hb⟩
  refine ⟨?_, hb⟩
  rcases Nat.lt_trichotomy p i with hh | hh | hh
  · have := hp2 i hh hi
    omega
  · rw [hh]
  · rcases hp with hp | ⟨hp, hp1⟩
    · omega
    · have := h2 p hh hp
      omega

/-- What both Puts give. -/
theorem bputs_no (w : World) (B D : Nat) (A : Option Addr) (n c : Nat) (A' : Option Addr) (c' : Nat) (es : List (List UInt8 × Nat)) (h : Ents w B A n es) (hBw : B ≤ w.heap.size) (h' : REnts w D A' n es) (hDw : D ≤ w.heap.size) (hn : n ≤ 1000) (hk : ∀ e ∈ es, e.1.length ≤ 120) (S : Int) (hR : ¬ (BRight es S ∧ (bFill es : Int) ≤ S)) :
    ∃ E : Int, (E = 1 ∨ E = 21) ∧ (∀ W, RB w W → Calls Try.prog 17 #[.slice A n c, .int .i64 S] W fun e w' => e = .returned (.tuple #[.slice none 0 0, .int .i64 E]) ∧ Below W.heap.size W w') ∧
      (∀ W, RB w W → Calls Try.prog 18 #[.slice A' n c', .int .i64 S] W fun e w' => e = .returned (.tuple #[.string (st []), .int .i64 E]) ∧ Below W.heap.size W w') := by
  have hk1 : ∀ e ∈ es, e.1.length ≤ 1000000 := fun e he => by have := hk e he; omega
  by_cases h1 : BRight es S
  · have hF : S < (bFill es : Int) := by have : ¬ (bFill es : Int) ≤ S := fun h2 => hR ⟨h1, h2⟩; omega
    exact ⟨21, .inr rfl, fun W hW => bput_full W B A n c es (h.below (Below.mono hW hBw)) (Nat.le_trans hBw (Below.size hW)) (by omega) S h1 hF,
      fun W hW => rbput_full W D A' n c' es (h'.below (Below.mono hW hDw)) (Nat.le_trans hDw (Below.size hW)) (by omega) hk1 S h1 hF⟩
  · exact ⟨1, .inl rfl, fun W hW => bput_arg W B A n c es (h.below (Below.mono hW hBw)) (Nat.le_trans hBw (Below.size hW)) (by omega) S h1,
      fun W hW => rbput_no W D A' n c' es (h'.below (Below.mono hW hDw)) (Nat.le_trans hDw (Below.size hW)) (by omega) hk1 S h1⟩

set_option maxRecDepth 100000 in
set_option maxHeartbeats 2000000 in
theorem branchPuts_law (w : World) (A : Option Addr) (n c : Nat) (rs : List (List UInt8 × Nat)) (h : Ents w w.heap.size A n rs) (hn : n ≤ 9223372036854775807) (S : Int) (sb : Bool)
    (A' : Option Addr) (n' c' : Nat) (key : List UInt8) (h' : Sl w w.heap.size A' n' c' key) :
    Calls Try.prog 3 #[.slice A n c, .int .i64 S, .bool sb, .slice A' n' c'] w fun e w' => e = .returned (.bool true) ∧ Below w.heap.size w w' := by
  go_enter Try.func3, Try.ntmps3
  go_wp2_with fail
  refine (awake5 w).mono ?_
  rintro e w1 ⟨rfl, hb1⟩
  have h1 := h.below hb1
  go_wp2_with fail
  refine (bfew_any _ _ _ _ _ _ h1 hb1.size hn).mono ?_
  rintro e w2 ⟨b, rfl, hb, hb2'⟩
  have hb2 := hb1.trans (hb2'.mono hb1.size)
  have h2 := h.below hb2
  clear h1 hb1 hb2'
  cases b with
  | false =>
    clear hb
    go_wp2_with fail
    go_ret
    exact ⟨rfl, hb2⟩
  | true =>
    obtain ⟨hf1, hf2⟩ := hb.1 rfl
    rw [h.1] at hf1
    clear hb
    by_cases hlong : 120 < n'
    · have hd : decide (120 < (n' : Int)) = true := decide_eq_true (by omega)
      go_wp2_with fail
      go_ret
      exact ⟨rfl, hb2⟩
    have hd : decide (120 < (n' : Int)) = false := decide_eq_false (by omega)
    go_wp2_with fail
    refine (entries_any _ _ _ _ _ _ h2 hb2.size hf1 hf2 sb).mono ?_
    rintro e w3 ⟨es, Al, cl, Aw, cw, rfl, hl30, h32, hk120, hE, hRE, hb3'⟩
    have hb3 := hb2.trans (hb3'.mono hb2.size)
    obtain ⟨m, hm⟩ : ∃ m, es.length = m := ⟨_, rfl⟩
    rw [hm] at hl30 hE hRE ⊢
    have HM := Lib.hid hm
    have hk1 : ∀ e ∈ es, e.1.length ≤ 1000000 := fun e he => by have := hk120 e he; omega
    have hr0 : RB w3 w3 := Below.refl _ _
    have hbright := fun W (hW : RB w3 W) => bright_any W _ _ _ cl _ (hE.below hW) (Below.size hW) (by omega) S
    have hrright := fun W (hW : RB w3 W) => rright_any W _ _ _ cw _ (hRE.below hW) (Below.size hW) (by omega) hk1 S
    have hbfill := fun W (hW : RB w3 W) => bfill_any W _ _ _ cl _ (hE.below hW) (Below.size hW) (by omega) hk1
    have hrfill := fun W (hW : RB w3 W) => rfill_any W _ _ _ cw _ (hRE.below hW) (Below.size hW) (by omega) hk1
    clear h2 hb2 hb3' hm hd
    by_cases hgo : BRight es S ∧ (bFill es : Int) ≤ S
    · obtain ⟨hR, hfS⟩ := hgo
      have hS1 := hR.1
      have hS2 := hR.2.1
      obtain ⟨size, rfl⟩ := Int.eq_ofNat_of_zero_le (show 0 ≤ S by omega)
      have hfit : bFill es ≤ size := by omega
      have hput := fun W (hW : RB w3 W) => bput_ok W _ _ _ cl _ (hE.below hW) (Below.size hW) (by omega) size hR hfit
      have hrput := fun W (hW : RB w3 W) => rbput_ok W _ _ _ cw _ (hRE.below hW) (Below.size hW) (by omega) size hR hfit
      have hL := bPut_length es size hfit
      have hgetp := fun W g (hs : Sl W W.heap.size (some ⟨g, 0, none⟩) size size (bPut es size)) => bget_page W _ _ size size es hs (Nat.le_refl _) (by omega) hR hfit h32
      rw [HM.out] at hgetp
      have HR := Lib.hid hR
      obtain ⟨L, hLL⟩ : ∃ L, bPut es size = L := ⟨_, rfl⟩
      rw [hLL] at hput hrput hL hgetp
      clear hR hfS hfit hLL hS1 hS2
      have hsz : size ≤ 4096 := by have := HR.out.2.1; omega
      go_wp2_with fail
      refine (hput _ hr0).mono ?_
      rintro e w4 ⟨g, rfl, hg, hrow, hb4⟩
      have hr4 : RB w3 w4 := RB.step hb4 hr0
      have hsl4 := hrow.slN (n := size) hL (by omega)
      have hr44 : RB w4 w4 := Below.refl _ _
      go_wp2_with fail
      refine (hrput _ hr4).mono ?_
      rintro e w5 ⟨rfl, hb5⟩
      have hr5 := RB.step hb5 hr4
      have hr45 := RB.step hb5 hr44
      go_wp2_with fail
      refine (hrright _ hr5).mono ?_
      rintro e w6 ⟨rb, rfl, hrb, hb6⟩
      have hr6 := RB.step hb6 hr5
      have hr46 := RB.step hb6 hr45
      have hcv := string_of_sl (P := Try.prog) Try.underlying23 Try.underlying5 Try.underlying9 (hsl4.below hr46)
      clear hput hrput hr4 hr5 hb4 hb5 hb6 hr44 hr45 hrow hL
      go_wp2_with fail
      refine (hbright _ hr6).mono ?_
      rintro e w7 ⟨rb2, rfl, hrb2, hb7⟩
      obtain rfl : rb2 = rb := by
        cases rb <;> cases rb2
        · rfl
        · exact absurd (hrb.2 HR.out) (by simp)
        · exact absurd (hrb2.2 HR.out) (by simp)
        · rfl
      have hr7 := RB.step hb7 hr6
      have hr47 := RB.step hb7 hr46
      clear hcv hrb2 hb7 hr6 hr46
      go_wp2_with fail
      refine (hbfill _ hr7).mono ?_
      rintro e w8 ⟨rfl, hb8⟩
      have hr8 := RB.step hb8 hr7
      have hr48 := RB.step hb8 hr47
      clear hb8 hr7 hr47
      go_wp2_with fail
      refine (hrfill _ hr8).mono ?_
      rintro e w9 ⟨rfl, hb9⟩
      have hr9 := RB.step hb9 hr8
      have hr49 := RB.step hb9 hr48
      have hr49d : RB w4 w9.drew := Below.drew hr49
      clear hb9 hr8 hr48 hbright hrright hbfill hrfill hr49
      obtain rfl : rb2 = true := hrb.2 HR.out
      clear hrb
      go_wp2_with fail
      obtain ⟨I, hI, hI1, hI2⟩ := find_ex (HR.out) key
      rw [HM.out] at hI hI2
      have hfind := fun W (hW : RB w3 W) => bfind_is W _ _ _ _ cl _ (hE.below hW) (Below.size hW) (by omega) (HR.out) _ _ _ _ (h'.below (hb3.trans (Below.mono hW hb3.size))) (Nat.le_trans hb3.size (Below.size hW)) I hI hI1 hI2
      have hrfind := fun W (hW : RB w3 W) => rfind_is W _ _ _ cw _ (hRE.below hW) (Below.size hW) (by omega) key I hI hI1 hI2
      have hS : ∀ w', RB w3 w' → (convert 23 9 (.slice A' n' c')).run Try.prog w' = .ok (.string ⟨key.toArray⟩) w' := fun w' hW => string_of_sl (P := Try.prog) Try.underlying23 Try.underlying5 Try.underlying9 (h'.below (hb3.trans (Below.mono hW hb3.size)))
      have HS := Lib.hid hS
      have HF := Lib.hid hfind
      have HRF := Lib.hid hrfind
      have hrd : RB w3 w9.drew := Below.drew hr9
      clear hS hfind hrfind hI1 hI2
      go_region_held3 (fun w' => (convert 23 9 (.slice A' n' c')).run Try.prog w' = .ok (.string ⟨key.toArray⟩) w') (exact HS.out _ (by assumption)) (first | (go_at_call 23; refine (HF.out _ (by assumption)).mono ?_; rintro r wn ⟨rfl, hbn⟩; have hrn := RB.step (w0 := w3) hbn (by assumption); have hr4n := RB.step (w0 := w4) hbn (by assumption)) | (go_at_call 24; refine (HRF.out _ (by assumption)).mono ?_; rintro r wn ⟨rfl, hbn⟩; have hrn := RB.step (w0 := w3) hbn (by assumption); have hr4n := RB.step (w0 := w4) hbn (by assumption)))
      have hsln := hsl4.below hr4n
      go_wp2_with fail
      refine (hgetp _ _ hsln.lt').mono ?_
      rintro e w10 ⟨Ag, cg, rfl, hG, hb10⟩
      have hr10 := RB.step hb10 hrn
      have hRE10 := hRE.below hr10
      have hz10 := Below.size hr10
      have hbz := hb3.trans (Below.mono hr10 hb3.size)
      clear hgetp hsl4 hsln hr4n hr49d hrn hRE hE hr9 hrd hb10 HS HF HRF
      go_wp2_with fail
      go_loopw [20] (fun i wr => ∃ k d : Nat, k ≤ m ∧ i = .int .i64 (k : Int) ∧ wr = w10.drewN d) (fun i _ => m - (intOf i).toNat)
      case atStart => exact ⟨0, 0, Nat.zero_le _, rfl, rfl⟩
      case round =>
        obtain ⟨k, d, hkm, rfl, rfl⟩ := hrel
        by_cases hlt : k < m
        · obtain ⟨ky, x, ad, Ak, nk, ck, he, hx, rfl, hB, a0, a1, hsl⟩ := hG.at_ hlt
          obtain ⟨ky', x', ad', he', hx', rfl, hB', b0, b1⟩ := hRE10.at_ hlt
          rw [he] at he'
          cases he'
          have a1 : w10.cell? ⟨(ad.add (k * 2)).block, (ad.add (k * 2)).off + 1, none⟩ = some (.int .u32 x) := a1
          have b1 : w10.cell? ⟨(ad'.add (k * 2)).block, (ad'.add (k * 2)).off + 1, none⟩ = some (.int .u32 x) := b1
          obtain ⟨ts, hts⟩ : ∃ ts, st ky = ts := ⟨_, rfl⟩
          rw [hts] at b0
          have hcv := conv_o hsl ts hts
          clear he hts
          go_wp2_with fail
          go_quiet (fail)
          go_wp2_with fail
          refine ⟨⟨k + 1, _, hlt, by go_num, rfl⟩, by simp [intOf]; omega⟩
        · obtain rfl : k = m := by omega
          go_wp2_with fail
          go_ret
          exact ⟨rfl, below_drewN hbz _⟩
    · obtain ⟨E, hE1, hput, hrput⟩ := bputs_no w3 _ _ _ _ cl _ cw _ hE (Nat.le_refl _) hRE (Nat.le_refl _) (by omega) hk120 S hgo
      have hEb : (E != 0) = true := by rcases hE1 with rfl | rfl <;> rfl
      have hEe : (E != E) = false := by simp
      clear hE1
      go_wp2_with fail
      refine (hput _ hr0).mono ?_
      rintro e w4 ⟨rfl, hb4⟩
      have hr4 : RB w3 w4 := RB.step hb4 hr0
      go_wp2_with fail
      refine (hrput _ hr4).mono ?_
      rintro e w5 ⟨rfl, hb5⟩
      have hr5 := RB.step hb5 hr4
      go_wp2_with fail
      refine (hrright _ hr5).mono ?_
      rintro e w6 ⟨rb, rfl, hrb, hb6⟩
      have hr6 := RB.step hb6 hr5
      have hcv := string_of_sl (P := Try.prog) Try.underlying23 Try.underlying5 Try.underlying9 (Sl.nil_ w6 0)
      clear hput hrput hr4 hr5 hb4 hb5 hb6 hgo
      go_wp2_with fail
      refine (hbright _ hr6).mono ?_
      rintro e w7 ⟨rb2, rfl, hrb2, hb7⟩
      obtain rfl : rb2 = rb := by
        cases rb <;> cases rb2
        · rfl
        · exact absurd (hrb.2 (hrb2.1 rfl)) (by simp)
        · exact absurd (hrb2.2 (hrb.1 rfl)) (by simp)
        · rfl
      have hr7 := RB.step hb7 hr6
      clear hcv hrb2 hb7 hr6
      go_wp2_with fail
      refine (hbfill _ hr7).mono ?_
      rintro e w8 ⟨rfl, hb8⟩
      have hr8 := RB.step hb8 hr7
      clear hb8 hr7
      go_wp2_with fail
      refine (hrfill _ hr8).mono ?_
      rintro e w9 ⟨rfl, hb9⟩
      have hr9 := RB.step hb9 hr8
      clear hb9 hr8 hbright hrright hbfill hrfill
      go_wp2_with fail
      cases rb2 with
      | false =>
        clear hrb
        go_quiet (fail)
        go_wp2_with fail
        go_ret
        exact ⟨rfl, below_drewN (hb3.trans (Below.mono hr9 hb3.size)) _⟩
      | true =>
        obtain ⟨I, hI, hI1, hI2⟩ := find_ex (hrb.1 rfl) key
        rw [HM.out] at hI hI2
        have hfind := fun W (hW : RB w3 W) => bfind_is W _ _ _ _ cl _ (hE.below hW) (Below.size hW) (by omega) (hrb.1 rfl) _ _ _ _ (h'.below (hb3.trans (Below.mono hW hb3.size))) (Nat.le_trans hb3.size (Below.size hW)) I hI hI1 hI2
        have hrfind := fun W (hW : RB w3 W) => rfind_is W _ _ _ cw _ (hRE.below hW) (Below.size hW) (by omega) key I hI hI1 hI2
        have hS : ∀ w', RB w3 w' → (convert 23 9 (.slice A' n' c')).run Try.prog w' = .ok (.string ⟨key.toArray⟩) w' := fun w' hW => string_of_sl (P := Try.prog) Try.underlying23 Try.underlying5 Try.underlying9 (h'.below (hb3.trans (Below.mono hW hb3.size)))
        have HS := Lib.hid hS
        have HF := Lib.hid hfind
        have HRF := Lib.hid hrfind
        have hrd : RB w3 w9.drew := Below.drew hr9
        clear hS hfind hrfind hrb hI1 hI2
        go_region_held3 (fun w' => (convert 23 9 (.slice A' n' c')).run Try.prog w' = .ok (.string ⟨key.toArray⟩) w') (exact HS.out _ (by assumption)) (first | (go_at_call 23; refine (HF.out _ (by assumption)).mono ?_; rintro r wn ⟨rfl, hbn⟩; have hrn := RB.step (w0 := w3) hbn (by assumption)) | (go_at_call 24; refine (HRF.out _ (by assumption)).mono ?_; rintro r wn ⟨rfl, hbn⟩; have hrn := RB.step (w0 := w3) hbn (by assumption)))
        go_wp2_with fail
        go_ret
        exact ⟨rfl, hb3.trans (Below.mono hrn hb3.size)⟩

end Go.Proofs.Ytmljfjmceakahaa
