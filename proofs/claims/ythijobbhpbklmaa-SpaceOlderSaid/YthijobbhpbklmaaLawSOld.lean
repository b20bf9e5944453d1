/- SpaceOlder: with an older change no more pages are usable. -/
import Derived.Test.YthijobbhpbklmaaSAwake
import Derived.Test.YthijobbhpbklmaaSBrO
namespace Go.Proofs.Ythijobbhpbklmaa
open Go.RowKit
set_option linter.unusedVariables false
set_option linter.unusedSimpArgs false

theorem rp_len (rs : List FRc) : (rpAll rs).length = (rs.map fun r => r.2.length).sum := by
  unfold rpAll
  rw [List.length_flatMap]
theorem rp_bound {rs : List FRc} {a b : Nat} (h1 : rs.length ≤ a) (h2 : ∀ r ∈ rs, r.2.length ≤ b) : (rpAll rs).length ≤ a * b := by
  have h : ∀ l : List FRc, (∀ r ∈ l, r.2.length ≤ b) → (rpAll l).length ≤ l.length * b := by
    intro l
    induction l with
    | nil => intro _; simp [rpAll]
    | cons r l ih =>
      intro h
      have e1 := h r List.mem_cons_self
      have e2 := ih (fun x hx => h x (List.mem_cons_of_mem _ hx))
      have e3 : rpAll (r :: l) = r.2 ++ rpAll l := rfl
      rw [e3, List.length_append, List.length_cons, Nat.succ_mul]
      omega
  exact Nat.le_trans (h rs h2) (Nat.mul_le_mul_right b h1)
theorem old_le {rs : List FRc} {a b : Nat} (h : a ≤ b) : (rpAll (wOld a rs)).length ≤ (rpAll (wOld b rs)).length := by
  induction rs with
  | nil => exact Nat.le_refl _
  | cons r rs ih =>
    unfold wOld at ih ⊢
    by_cases h1 : r.1 ≤ a
    · rw [List.filter_cons_of_pos (by simpa using h1), List.filter_cons_of_pos (by simp; omega)]
      show (r.2 ++ _).length ≤ (r.2 ++ _).length
      rw [List.length_append, List.length_append]
      exact Nat.add_le_add_left ih _
    · rw [List.filter_cons_of_neg (by simpa using h1)]
      by_cases h2 : r.1 ≤ b
      · rw [List.filter_cons_of_pos (by simpa using h2)]
        show _ ≤ (r.2 ++ _).length
        rw [List.length_append]
        exact Nat.le_trans ih (Nat.le_add_left _ _)
      · rw [List.filter_cons_of_neg (by simpa using h2)]
        exact ih
theorem old_all {rs : List FRc} (h : ∀ r ∈ rs, r.1 < 18446744073709551616) : wOld 18446744073709551615 rs = rs := by
  unfold wOld
  rw [List.filter_eq_self]
  intro r hr
  have := h r hr
  simp
  omega
set_option maxRecDepth 100000 in
set_option maxHeartbeats 4000000 in
theorem spaceOlder_law (w : World) (A : Option Addr) (n c : Nat) (rs : List FRc) (h : Recs w w.heap.size A n rs) (hc : Caps w A n c rs) (hok : FROk rs) (hn : n ≤ 4398046511103) (hrl : ∀ r ∈ rs, r.2.length ≤ 35184372088831) (a b : Nat) (ha : a < 18446744073709551616) (hb : b < 18446744073709551616) :
    Calls Try.prog 13 #[.slice A n c, .int .u64 (a : Int), .int .u64 (b : Int)] w fun e w' => e = .returned (.bool true) ∧ Below w.heap.size w w' := by
  have HREC := Lib.hid h
  have HCAP := Lib.hid hc
  have haw := awake08 (sorts_at pdq12) (Nat.le_refl _) (by omega) w
  clear h hc
  go_enter Try.func13, Try.ntmps13
  go_wp2_with fail
  refine haw.mono ?_
  rintro e w1 ⟨rfl, hb1⟩
  clear haw
  have hR1 := HREC.out.below hb1
  have hC1 : Caps w1 A n c rs := HCAP.out.keep HREC.out (fun p hp => hb1.cell hp)
  have hz1 := hb1.size
  have hfew := few_any w1 w.heap.size A n c rs hR1 hC1
  have HR1 := Lib.hid hR1
  have HC1 := Lib.hid hC1
  clear hR1 hC1
  go_wp2_with fail
  refine hfew.mono ?_
  rintro e w2 ⟨f, rfl, HF, hb2⟩
  clear hfew
  have hbb2 := hb1.trans (hb2.mono hz1)
  have hz2 := hb2.size
  have hR2 := HREC.out.below hbb2
  have hC2 : Caps w2 A n c rs := HCAP.out.keep HREC.out (fun p hp => hbb2.cell hp)
  have hrec := records_any w2 A n c rs (hR2.more (by omega)) hC2 hn hrl
  clear hR2 hC2 hb1 hb2
  go_wp2_with fail
  refine hrec.mono ?_
  rintro e w3 ⟨A1, c1, A2, c2, rfl, hK1, hk1, _, _, hb3⟩
  clear hrec
  have hbb3 := hbb2.trans (hb3.mono (by omega))
  have hz3 := hb3.size
  clear hbb2 hb3
  have hR3 := recs_Rec (c := c1) hK1
  have HR3 := Lib.hid hR3
  have HK1 := Lib.hid hK1
  have hlen : rs.length = n := hR3.1
  clear hR3 hK1
  cases f with
  | false =>
    go_wp2_with fail
    go_ret
    exact ⟨rfl, hbb3⟩
  | true =>
    obtain ⟨hf1, hf2⟩ := HF.out rfl
    have htot := rp_bound hf1 hf2
    have hn10 : n ≤ 10 := by omega
    have hrt := spright_any w3 w3.heap.size A1 n c1 rs HR3.out (Nat.le_refl _) hok (by omega) (fun r hr => by have := hf2 r hr; omega) (by omega) 50
    go_wp2_with fail
    refine hrt.mono ?_
    rintro e w4 ⟨b4, rfl, hbr, hb4⟩
    clear hrt
    have hbb4 := hbb3.trans (hb4.mono (by omega))
    have hz4 := hb4.size
    cases b4 with
    | false =>
      go_wp2_with fail
      go_ret
      exact ⟨rfl, hbb4⟩
    | true =>
      have hrg := hbr.1 rfl
      clear hbr
      by_cases hab : b < a
      · have d1 : decide ((b : Int) < (a : Int)) = true := decide_eq_true (by omega)
        have d2 : decide (b < a) = true := decide_eq_true hab
        go_wp2_with fail
        go_ret
        exact ⟨rfl, hbb4⟩
      · have d1 : decide ((b : Int) < (a : Int)) = false := decide_eq_false (by omega)
        have d2 : decide (b < a) = false := decide_eq_false hab
        have hne : ∀ r ∈ rs, r.2 ≠ [] := fun r hr => by
          obtain ⟨i, hi⟩ := List.getElem?_of_mem hr
          exact (hrg i r hi).1
        have hpl : ∀ r ∈ rs, r.2.length ≤ 1000000000 := fun r hr => by have := hf2 r hr; omega
        have mk : ∀ (W : World) (o : Nat), RowKit.Below w3.heap.size w3 W → o < 18446744073709551616 → Calls Try.prog 40 #[.int .u32 ((50 : Nat) : Int), .int .u32 ((60 : Nat) : Int), .slice A1 n c1, .int .u64 (o : Int)] W fun x w' => ∃ p, x = .returned (.tuple #[.pointer (some ⟨p, 0, none⟩), .int .i64 0]) ∧ W.heap.size ≤ p ∧ SpAt w' 0 (fun _ => True) p (sNew 50 60 o rs) ∧ Below W.heap.size W w' := fun W o hW ho =>
          snew_any W w3.heap.size A1 n c1 rs (HR3.out.below hW) (fun W' hW' => hcp_Rec HK1.out hne W' (hW.trans (hW'.mono (Nat.le_refl _)))) hW.size hok (by omega) hpl (by omega) 50 60 o ho ⟨by omega, by omega, by omega, hrg⟩ 0 (fun _ => True) (Nat.zero_le _) (fun _ _ => trivial)
        have MK := Lib.hid mk
        have hn1 := mk w4 a hb4 ha
        have H4 := Lib.hid hb4
        clear mk hb4
        go_wp2_with fail
        refine hn1.mono ?_
        rintro e w5 ⟨p1, rfl, hp1, hS1, hb5⟩
        clear hn1
        have hz5 := hb5.size
        have hw5 := H4.out.trans (hb5.mono hz4)
        have hn2 := MK.out w5 b hw5 hb
        have H5 := Lib.hid hb5
        clear hb5
        go_wp2_with fail
        refine hn2.mono ?_
        rintro e w6 ⟨p2, rfl, hp2, hS2, hb6⟩
        clear hn2
        have hz6 := hb6.size
        have hw6 := hw5.trans (hb6.mono (by omega))
        have hn3 := MK.out w6 18446744073709551615 hw6 (by omega)
        have hS1' := hS1.below hb6
        have H6 := Lib.hid hb6
        clear hb6 hS1
        go_wp2_with fail
        refine hn3.mono ?_
        rintro e w7 ⟨p3, rfl, hp3, hS3, hb7⟩
        clear hn3
        have hz7 := hb7.size
        have hw7 := hw6.trans (hb7.mono (by omega))
        have hT1 := hS1'.below hb7
        have hT2 := hS2.below hb7
        have hbb7 := hbb3.trans (hw7.mono (by omega))
        have HR7 := Lib.hid (HR3.out.below hw7)
        have HBB := Lib.hid hbb7
        clear hS1' hS2 hb7 hw5 hw6 hw7 hbb3 hbb4 hbb7
        go_wp2_with fail
        go_loopw [17, 18] (fun s i wr => ∃ k : Nat, k ≤ n ∧ s = .int .i64 (((rpAll (rs.take k)).length : Nat) : Int) ∧ i = .int .i64 (k : Int) ∧ wr = w7) (fun _ i _ => n - (intOf i).toNat)
        case atStart => exact ⟨0, Nat.zero_le _, by simp [rpAll], rfl, rfl⟩
        case round =>
          obtain ⟨k, hk, rfl, rfl, rfl⟩ := hrel
          by_cases hlt : k < n
          · obtain ⟨r, ad, Ap, np, cp, hrk, rfl, hRC⟩ := HR7.out.at_ hlt
            obtain ⟨hadB, _, cb, hpg⟩ := hRC
            have cb : wr.cell? ⟨(ad.add (k * 2)).block, (ad.add (k * 2)).off + 1, none⟩ = some (.slice Ap np cp) := cb
            have hnp : r.2.length = np := by have := hpg.1; rw [Pgs_length] at this; omega
            have hs : (rpAll (rs.take (k + 1))).length = (rpAll (rs.take k)).length + np := by rw [rtake_succ hrk, rpAll_snoc, List.length_append, hnp]
            have hs2 : (rpAll (rs.take k)).length ≤ 300 := Nat.le_trans (rp_bound (a := 10) (b := 30) (by rw [List.length_take]; omega) (fun x hx => hf2 x (List.mem_of_mem_take hx))) (by omega)
            have hnp30 : np ≤ 30 := by rw [← hnp]; exact hf2 r (List.mem_of_getElem? hrk)
            obtain ⟨s, hss⟩ : ∃ s, (rpAll (rs.take k)).length = s := ⟨_, rfl⟩
            rw [hss] at hs hs2 ⊢
            have HS := Lib.hid hs
            clear hs hss hpg hrk hnp
            have d3 : decide ((k : Int) < (n : Int)) = true := decide_eq_true (by omega)
            go_wp2_with fail
            exact ⟨⟨k + 1, by omega, by rw [HS.out]; go_num, by go_num, trivial⟩, by simp [intOf]; omega⟩
          · obtain rfl : k = n := by omega
            have hall : rs.take k = rs := List.take_of_length_le (by omega)
            rw [hall]
            obtain ⟨s1, e1⟩ : ∃ s1, (rpAll (wOld a rs)).length = s1 := ⟨_, rfl⟩
            obtain ⟨s2, e2⟩ : ∃ s2, (rpAll (wOld b rs)).length = s2 := ⟨_, rfl⟩
            obtain ⟨s3, e3⟩ : ∃ s3, (rpAll rs).length = s3 := ⟨_, rfl⟩
            have u1 := susable_any hT1
            have u2 := susable_any hT2
            have u3 := susable_any hS3
            have l12 : s1 ≤ s2 := by rw [← e1, ← e2]; exact old_le (by omega)
            have l23 : s2 ≤ s3 := by
              rw [← e2, ← e3]
              have := old_le (rs := rs) (a := b) (b := 18446744073709551615) (by omega)
              rwa [old_all (fun r hr => (hok r hr).1)] at this
            rw [show (sNew 50 60 a rs).us.length = s1 from e1] at u1
            rw [show (sNew 50 60 b rs).us.length = s2 from e2] at u2
            rw [show (sNew 50 60 18446744073709551615 rs).us.length = s3 from by show (rpAll (wOld _ rs)).length = s3; rw [old_all (fun r hr => (hok r hr).1)]; exact e3] at u3
            rw [e3]
            have q1 : decide ((s1 : Int) ≤ (s2 : Int)) = true := decide_eq_true (by omega)
            have q2 : decide ((s2 : Int) ≤ (s3 : Int)) = true := decide_eq_true (by omega)
            have q1' : decide (s1 ≤ s2) = true := decide_eq_true (by omega)
            have q2' : decide (s2 ≤ s3) = true := decide_eq_true (by omega)
            clear e1 e2 e3 hT1 hT2 hS3
            have d3 : decide ((k : Int) < (k : Int)) = false := decide_eq_false (by omega)
            go_wp2_with fail
            refine u1.mono ?_
            rintro e x1 ⟨rfl, rfl⟩
            go_wp2_with fail
            refine u2.mono ?_
            rintro e x1 ⟨rfl, rfl⟩
            go_wp2_with fail
            refine u2.mono ?_
            rintro e x1 ⟨rfl, rfl⟩
            go_wp2_with fail
            refine u3.mono ?_
            rintro e x1 ⟨rfl, rfl⟩
            go_wp2_with fail
            go_ret
            exact ⟨by simp, HBB.out⟩
end Go.Proofs.Ythijobbhpbklmaa
