-- PRINTED BY print.sh 35421559b90ae4d0a3588c463048766b98c2df88dd9212a6774a882060cdf62d: not written by this session
import Derived.Test.YthijobbhpbklmaaPSpacePlaysx0
namespace Go.Proofs.Ythijobbhpbklmaa.PSpacePlays
open Go.RowKit Go.Proofs.YthijobbhpbklmaaW.PrintWords Go.Proofs.YthijobbhpbklmaaW.PrintLast Go.Proofs.YthijobbhpbklmaaW.PrintMore
attribute [local go_sem] max2_int min2_int max_two min_two max_three min_three max_four min_four   -- for this text's walks alone
set_option linter.unusedVariables false
set_option linter.unusedSimpArgs false

/-! ### rubricatorlaw08_same: function 50 -/
mutual
def rubricatorlaw08_same.l0 : Nat → List (S101) → List (S139) → Int → Option (Bool)
  | 0, _, _, _ => none
  | k + 1, x0, x1, x5 => if x5 < (x0.length : Int) then (if 0 ≤ x5 then (if x5 < (x1.length : Int) then (if ((rd_T101 x0 x5).f0) = ((rd_T139 x1 x5).f0) then (rubricatorlaw08_same.j1 k x0 x1 x5 ((((rd_T101 x0 x5).f1).length : Int) != (((rd_T139 x1 x5).f1).length : Int))) else (rubricatorlaw08_same.j1 k x0 x1 x5 true)) else (none)) else (none)) else (some true)
def rubricatorlaw08_same.j1 : Nat → List (S101) → List (S139) → Int → Bool → Option (Bool)
  | 0, _, _, _, _ => none
  | k + 1, x0, x1, x5, x43 => if x43 = true then (some false) else (rubricatorlaw08_same.l1 k x0 x1 x5 0)
def rubricatorlaw08_same.l1 : Nat → List (S101) → List (S139) → Int → Int → Option (Bool)
  | 0, _, _, _, _ => none
  | k + 1, x0, x1, x5, x6 => if 0 ≤ x5 then (if x5 < (x0.length : Int) then (if x6 < (((rd_T101 x0 x5).f1).length : Int) then (if 0 ≤ x6 then (if x5 < (x1.length : Int) then (if x6 < (((rd_T139 x1 x5).f1).length : Int) then (if (rd ((rd_T101 x0 x5).f1) x6) = (rd ((rd_T139 x1 x5).f1) x6) then (rubricatorlaw08_same.l1 k x0 x1 x5 (wrap64 (x6 + 1))) else (some false)) else (none)) else (none)) else (none)) else (rubricatorlaw08_same.l0 k x0 x1 (wrap64 (x5 + 1)))) else (none)) else (none)
end
def rubricatorlaw08_same.f (k : Nat) (l0 : List (S101)) (l1 : List (S139)) : Option (Bool) := if (l0.length : Int) = (l1.length : Int) then (rubricatorlaw08_same.l0 k l0 l1 0) else (some false)
theorem rubricatorlaw08_same.mono_l : ∀ k, (∀ y0 y1 y2, LeO (rubricatorlaw08_same.l0 k y0 y1 y2) (rubricatorlaw08_same.l0 (k + 1) y0 y1 y2)) ∧ (∀ y0 y1 y2 y3, LeO (rubricatorlaw08_same.j1 k y0 y1 y2 y3) (rubricatorlaw08_same.j1 (k + 1) y0 y1 y2 y3)) ∧ (∀ y0 y1 y2 y3, LeO (rubricatorlaw08_same.l1 k y0 y1 y2 y3) (rubricatorlaw08_same.l1 (k + 1) y0 y1 y2 y3))
  | 0 => ⟨fun _ _ _ r h => by simp [rubricatorlaw08_same.l0] at h, fun _ _ _ _ r h => by simp [rubricatorlaw08_same.j1] at h, fun _ _ _ _ r h => by simp [rubricatorlaw08_same.l1] at h⟩
  | k + 1 => by
    obtain ⟨ih0, ih1, ih2⟩ := rubricatorlaw08_same.mono_l k
    refine ⟨?_, ?_, ?_⟩
    · intro y0 y1 y2
      unfold rubricatorlaw08_same.l0
      repeat' first
      | (with_reducible exact ih0 _ _ _)
      | (with_reducible exact ih1 _ _ _ _)
      | (with_reducible exact ih2 _ _ _ _)
      | (with_reducible exact LeO.refl _)
      | (with_reducible exact LeO.none _)
      | (with_reducible refine LeO.ite ?_ ?_)
      | (with_reducible refine LeO.bind ?_ (fun _ => ?_))
      | exact ih0 _ _ _
      | exact ih1 _ _ _ _
      | exact ih2 _ _ _ _
      | exact LeO.none _
      | refine LeO.ite ?_ ?_
      | refine LeO.bind ?_ (fun _ => ?_)
    · intro y0 y1 y2 y3
      unfold rubricatorlaw08_same.j1
      repeat' first
      | (with_reducible exact ih0 _ _ _)
      | (with_reducible exact ih1 _ _ _ _)
      | (with_reducible exact ih2 _ _ _ _)
      | (with_reducible exact LeO.refl _)
      | (with_reducible exact LeO.none _)
      | (with_reducible refine LeO.ite ?_ ?_)
      | (with_reducible refine LeO.bind ?_ (fun _ => ?_))
      | exact ih0 _ _ _
      | exact ih1 _ _ _ _
      | exact ih2 _ _ _ _
      | exact LeO.none _
      | refine LeO.ite ?_ ?_
      | refine LeO.bind ?_ (fun _ => ?_)
    · intro y0 y1 y2 y3
      unfold rubricatorlaw08_same.l1
      repeat' first
      | (with_reducible exact ih0 _ _ _)
      | (with_reducible exact ih1 _ _ _ _)
      | (with_reducible exact ih2 _ _ _ _)
      | (with_reducible exact LeO.refl _)
      | (with_reducible exact LeO.none _)
      | (with_reducible refine LeO.ite ?_ ?_)
      | (with_reducible refine LeO.bind ?_ (fun _ => ?_))
      | exact ih0 _ _ _
      | exact ih1 _ _ _ _
      | exact ih2 _ _ _ _
      | exact LeO.none _
      | refine LeO.ite ?_ ?_
      | refine LeO.bind ?_ (fun _ => ?_)
theorem rubricatorlaw08_same.mono : ∀ a0 a1 k, LeO (rubricatorlaw08_same.f k a0 a1) (rubricatorlaw08_same.f (k + 1) a0 a1) := by
  intro a0 a1 k
  obtain ⟨ih0, ih1, ih2⟩ := rubricatorlaw08_same.mono_l k
  unfold rubricatorlaw08_same.f
  repeat' first
      | (with_reducible exact ih0 _ _ _)
      | (with_reducible exact ih1 _ _ _ _)
      | (with_reducible exact ih2 _ _ _ _)
      | (with_reducible exact LeO.refl _)
      | (with_reducible exact LeO.none _)
      | (with_reducible refine LeO.ite ?_ ?_)
      | (with_reducible refine LeO.bind ?_ (fun _ => ?_))
      | exact ih0 _ _ _
      | exact ih1 _ _ _ _
      | exact ih2 _ _ _ _
      | exact LeO.none _
      | refine LeO.ite ?_ ?_
      | refine LeO.bind ?_ (fun _ => ?_)
set_option maxHeartbeats 8000000 in
set_option maxRecDepth 100000 in
theorem rubricatorlaw08_same.calls (k : Nat) (A0 : Option Addr) (c0 : Nat) (l0 : List (S101)) (A1 : Option Addr) (c1 : Nat) (l1 : List (S139)) (r : Bool) (w : World) (hr0 : Kd.C k101 w A0 l0.length l0) (hc0 : l0.length ≤ c0) (hr1 : Kd.C k139 w A1 l1.length l1) (hc1 : l1.length ≤ c1) (h : rubricatorlaw08_same.f k l0 l1 = some r) :
    Calls Try.prog 50 #[.slice A0 l0.length c0, .slice A1 l1.length c1] w fun e w' => e = .returned (.bool r) ∧ Drawn0 w w' := by
  have HR0 := Aside0.mk hr0
  have HC0 := Aside0.mk hc0
  clear hr0 hc0
  have HR1 := Aside0.mk hr1
  have HC1 := Aside0.mk hc1
  clear hr1 hc1
  have H : (if (l0.length : Int) = (l1.length : Int) then (rubricatorlaw08_same.l0 k l0 l1 0) else (some false)) = some r := h
  clear h
  by_cases c3 : (l0.length : Int) = (l1.length : Int)
  · rw [if_pos c3] at H
    have c3b0 : ((l0.length : Int) == (l1.length : Int)) = true := beq_iff_eq.mpr c3
    have c3b1 : ((l0.length : Int) != (l1.length : Int)) = false := bne_eq_false_iff_eq.mpr c3
    have c3b2 : (l0.length == l1.length) = true := by first | simpa using c3 | (simp at c3 ⊢; omega)
    clear c3
    have H' := Aside0.mk H
    clear H
    go_enter Try.func50, Try.ntmps50
    go_wp2
    repeat (go_quiet (fail); try go_wp2)
    go_loopg [5] k (fun kq v5 w' => ∃ (x5_1 : Int), v5 = .int .i64 x5_1 ∧ Aside0 (rubricatorlaw08_same.l0 kq l0 l1 x5_1 = some r) ∧ Aside0 (kq ≤ k) ∧ Drawn0 w w')
    case atStart => exact ⟨(0), (by first | rfl | (simp; done) | (simp [*]; done)), H', ⟨Nat.le_refl _⟩, by repeat (first | exact Drawn0.refl _ | apply Drawn0.step)⟩
    case round =>
      clear H'
      try clear c1
      try clear p2
      try clear c3
      try clear c3b0
      try clear c3b1
      try clear c3b2
      obtain ⟨x5_1, rfl, HA, HK1, ⟨m1, rfl⟩⟩ := hrel
      cases gk with
      | zero => exact absurd HA.out (by simp [rubricatorlaw08_same.l0])
      | succ k1 =>
        have H := HA.out
        clear HA
        simp only [rubricatorlaw08_same.l0] at H
        by_cases c4 : x5_1 < (l0.length : Int)
        · rw [if_pos c4] at H
          have c4b0 : decide (x5_1 < (l0.length : Int)) = true := decide_eq_true c4
          clear c4
          have HC5 := Aside0.mk H
          clear H
          go_upto_region 6 with (fail)
          repeat (go_quiet (fail); go_upto_region 6 with (fail))
          go_cut [43] (fun v43 wc => ∃ (kq : Nat) (x43_4 : Bool), v43 = .bool x43_4 ∧ Aside0 (rubricatorlaw08_same.j1 kq l0 l1 x5_1 x43_4 = some r) ∧ Aside0 (kq ≤ k1) ∧ Drawn0 w wc)
          case first =>
            have H := HC5.out
            clear HC5
            by_cases c6 : 0 ≤ x5_1
            · rw [if_pos c6] at H
              have c6b0 : decide (0 ≤ x5_1) = true := decide_eq_true c6
              clear c6
              (first | rw [c6b0] | (simp only [i64_w, i32_w]; rw [c6b0]) | skip)
              by_cases c7 : x5_1 < (l1.length : Int)
              · rw [if_pos c7] at H
                have c7b0 : decide (x5_1 < (l1.length : Int)) = true := decide_eq_true c7
                clear c7
                by_cases c8 : ((rd_T101 l0 x5_1).f0) = ((rd_T139 l1 x5_1).f0)
                · rw [if_pos c8] at H
                  have c8b0 : (((rd_T101 l0 x5_1).f0) == ((rd_T139 l1 x5_1).f0)) = true := beq_iff_eq.mpr c8
                  have c8b1 : (((rd_T101 l0 x5_1).f0) != ((rd_T139 l1 x5_1).f0)) = false := bne_eq_false_iff_eq.mpr c8
                  clear c8
                  have H' := Aside0.mk H
                  clear H
                  have p321 : 0 ≤ (x5_1 : Int) := of_decide_eq_true (by first | (with_reducible assumption) | assumption)
                  have q321 : x5_1 < (l0.length : Int) := of_decide_eq_true (by first | (with_reducible assumption) | assumption)
                  obtain ⟨ad321, A321_1, c321_1, e321, hx321_0, hx321_1, hl321_1, hi321_1⟩ := at_T101 HR0.out x5_1 p321 q321
                  cases e321
                  have HR321_1 := Aside0.mk hi321_1
                  have HC321_1 := Aside0.mk hl321_1
                  clear hi321_1 hl321_1
                  replace p321 := eq_true p321
                  replace q321 := eq_true q321
                  have p322 : 0 ≤ (x5_1 : Int) := of_decide_eq_true (by first | (with_reducible assumption) | assumption)
                  have q322 : x5_1 < (l1.length : Int) := of_decide_eq_true (by first | (with_reducible assumption) | assumption)
                  obtain ⟨ad322, A322_1, c322_1, e322, hx322_0, hx322_1, hl322_1, hi322_1⟩ := at_T139 HR1.out x5_1 p322 q322
                  cases e322
                  have HR322_1 := Aside0.mk hi322_1
                  have HC322_1 := Aside0.mk hl322_1
                  clear hi322_1 hl322_1
                  replace p322 := eq_true p322
                  replace q322 := eq_true q322
                  have p323 : 0 ≤ (x5_1 : Int) := of_decide_eq_true (by first | (with_reducible assumption) | assumption)
                  have q323 : x5_1 < (l0.length : Int) := of_decide_eq_true (by first | (with_reducible assumption) | assumption)
                  obtain ⟨ad323, A323_1, c323_1, e323, hx323_0, hx323_1, hl323_1, hi323_1⟩ := at_T101 HR0.out x5_1 p323 q323
                  obtain rfl : ad321 = ad323 := (by injection e323)
                  have HR323_1 := Aside0.mk hi323_1
                  have HC323_1 := Aside0.mk hl323_1
                  clear hi323_1 hl323_1
                  replace p323 := eq_true p323
                  replace q323 := eq_true q323
                  have ea_ := Option.some.inj (hx321_1.symm.trans hx323_1)
                  injection ea_ with ea_ en_ ec_
                  subst ea_
                  subst ec_
                  clear en_
                  have p324 : 0 ≤ (x5_1 : Int) := of_decide_eq_true (by first | (with_reducible assumption) | assumption)
                  have q324 : x5_1 < (l1.length : Int) := of_decide_eq_true (by first | (with_reducible assumption) | assumption)
                  obtain ⟨ad324, A324_1, c324_1, e324, hx324_0, hx324_1, hl324_1, hi324_1⟩ := at_T139 HR1.out x5_1 p324 q324
                  obtain rfl : ad322 = ad324 := (by injection e324)
                  have HR324_1 := Aside0.mk hi324_1
                  have HC324_1 := Aside0.mk hl324_1
                  clear hi324_1 hl324_1
                  replace p324 := eq_true p324
                  replace q324 := eq_true q324
                  have ea_ := Option.some.inj (hx322_1.symm.trans hx324_1)
                  injection ea_ with ea_ en_ ec_
                  subst ea_
                  subst ec_
                  clear en_
                  go_wp2
                  repeat (go_quiet (fail); try go_wp2)
                  go_meet
                  case rel => exact ⟨_, (((((rd_T101 l0 x5_1).f1).length : Int) != (((rd_T139 l1 x5_1).f1).length : Int))), (by first | rfl | (simp; done) | (simp [*]; done)), H', ⟨by have := HK1.out; first | omega | exact Nat.le_refl _⟩, by repeat (first | exact Drawn0.refl _ | apply Drawn0.step)⟩
                · rw [if_neg c8] at H
                  have c8b0 : (((rd_T101 l0 x5_1).f0) == ((rd_T139 l1 x5_1).f0)) = false := beq_eq_false_iff_ne.mpr c8
                  have c8b1 : (((rd_T101 l0 x5_1).f0) != ((rd_T139 l1 x5_1).f0)) = true := bne_iff_ne.mpr c8
                  have H' := Aside0.mk H
                  clear H
                  have p321 : 0 ≤ (x5_1 : Int) := of_decide_eq_true (by first | (with_reducible assumption) | assumption)
                  have q321 : x5_1 < (l0.length : Int) := of_decide_eq_true (by first | (with_reducible assumption) | assumption)
                  obtain ⟨ad321, A321_1, c321_1, e321, hx321_0, hx321_1, hl321_1, hi321_1⟩ := at_T101 HR0.out x5_1 p321 q321
                  cases e321
                  have HR321_1 := Aside0.mk hi321_1
                  have HC321_1 := Aside0.mk hl321_1
                  clear hi321_1 hl321_1
                  replace p321 := eq_true p321
                  replace q321 := eq_true q321
                  have p322 : 0 ≤ (x5_1 : Int) := of_decide_eq_true (by first | (with_reducible assumption) | assumption)
                  have q322 : x5_1 < (l1.length : Int) := of_decide_eq_true (by first | (with_reducible assumption) | assumption)
                  obtain ⟨ad322, A322_1, c322_1, e322, hx322_0, hx322_1, hl322_1, hi322_1⟩ := at_T139 HR1.out x5_1 p322 q322
                  cases e322
                  have HR322_1 := Aside0.mk hi322_1
                  have HC322_1 := Aside0.mk hl322_1
                  clear hi322_1 hl322_1
                  replace p322 := eq_true p322
                  replace q322 := eq_true q322
                  go_wp2
                  repeat (go_quiet (fail); try go_wp2)
                  go_meet
                  case rel => exact ⟨_, (true), (by first | rfl | (simp; done) | (simp [*]; done)), H', ⟨by have := HK1.out; first | omega | exact Nat.le_refl _⟩, by repeat (first | exact Drawn0.refl _ | apply Drawn0.step)⟩
              · rw [if_neg c7] at H
                exact absurd H (by simp)
            · rw [if_neg c6] at H
              exact absurd H (by simp)
          case rest =>
            clear HC5
            try clear c1
            try clear p2
            try clear c3
            try clear c3b0
            try clear c3b1
            try clear c3b2
            try clear p3
            try clear q3
            try clear hx3
            try clear c4
            try clear c4b0
            try clear c5
            try clear c6
            try clear c6b0
            try clear c7
            try clear c7b0
            try clear c8
            try clear c8b0
            try clear c8b1
            try clear hx321_0
            try clear hx321_1
            try clear hx322_0
            try clear hx322_1
            try clear hx323_0
            try clear hx323_1
            try clear hx324_0
            try clear hx324_1
            try clear p2
            try clear p321
            try clear p322
            try clear p323
            try clear p324
            try clear q321
            try clear q322
            try clear q323
            try clear q324
            obtain ⟨kq, x43_4, rfl, HA, HJ4, ⟨mc4, rfl⟩⟩ := hcut
            cases kq with
            | zero => exact absurd HA.out (by simp [rubricatorlaw08_same.j1])
            | succ kj4 =>
              have H := HA.out
              clear HA
              simp only [rubricatorlaw08_same.j1] at H
              by_cases c9 : x43_4 = true
              · subst c9
                have H1 : (some false) = some r := by rw [if_pos rfl] at H; exact H
                clear H
                have H := H1
                clear H1
                obtain rfl := Option.some.inj H
                go_wp2
                repeat (go_quiet (fail); try go_wp2)
                go_ret
                exact ⟨by first | rfl | (simp; done) | (simp [*]; done), by repeat (first | exact Drawn0.refl _ | apply Drawn0.step)⟩
              · replace c9 := Bool.eq_false_iff.mpr c9
                subst c9
                have H1 : (rubricatorlaw08_same.l1 kj4 l0 l1 x5_1 0) = some r := by rw [if_neg (show ¬ (false = true) by decide)] at H; exact H
                clear H
                have H := H1
                clear H1
                have H' := Aside0.mk H
                clear H
                go_wp2
                repeat (go_quiet (fail); try go_wp2)
                go_loopg [6] kj4 (fun kq v6 w' => ∃ (x6_3 : Int), v6 = .int .i64 x6_3 ∧ Aside0 (rubricatorlaw08_same.l1 kq l0 l1 x5_1 x6_3 = some r) ∧ Aside0 (kq ≤ kj4) ∧ Drawn0 w w')
                case atStart => exact ⟨(0), (by first | rfl | (simp; done) | (simp [*]; done)), H', ⟨Nat.le_refl _⟩, by repeat (first | exact Drawn0.refl _ | apply Drawn0.step)⟩
                case round =>
                  clear H'
                  try clear c1
                  try clear p2
                  try clear c3
                  try clear c3b0
                  try clear c3b1
                  try clear c3b2
                  try clear p3
                  try clear q3
                  try clear hx3
                  try clear c4
                  try clear c4b0
                  try clear c5
                  try clear c6
                  try clear c6b0
                  try clear c7
                  try clear c7b0
                  try clear c8
                  try clear c8b0
                  try clear c8b1
                  try clear c9
                  try clear hx321_0
                  try clear hx321_1
                  try clear hx322_0
                  try clear hx322_1
                  try clear hx323_0
                  try clear hx323_1
                  try clear hx324_0
                  try clear hx324_1
                  try clear p2
                  try clear p3
                  try clear p321
                  try clear p322
                  try clear p323
                  try clear p324
                  try clear q3
                  try clear q321
                  try clear q322
                  try clear q323
                  try clear q324
                  obtain ⟨x6_3, rfl, HA, HK3, ⟨m3, rfl⟩⟩ := hrel
                  cases gk with
                  | zero => exact absurd HA.out (by simp [rubricatorlaw08_same.l1])
                  | succ k3 =>
                    have H := HA.out
                    clear HA
                    simp only [rubricatorlaw08_same.l1] at H
                    by_cases c10 : 0 ≤ x5_1
                    · rw [if_pos c10] at H
                      have c10b0 : decide (0 ≤ x5_1) = true := decide_eq_true c10
                      clear c10
                      by_cases c11 : x5_1 < (l0.length : Int)
                      · rw [if_pos c11] at H
                        have c11b0 : decide (x5_1 < (l0.length : Int)) = true := decide_eq_true c11
                        clear c11
                        by_cases c12 : x6_3 < (((rd_T101 l0 x5_1).f1).length : Int)
                        · rw [if_pos c12] at H
                          have c12b0 : decide (x6_3 < (((rd_T101 l0 x5_1).f1).length : Int)) = true := decide_eq_true c12
                          clear c12
                          by_cases c13 : 0 ≤ x6_3
                          · rw [if_pos c13] at H
                            have c13b0 : decide (0 ≤ x6_3) = true := decide_eq_true c13
                            clear c13
                            by_cases c14 : x5_1 < (l1.length : Int)
                            · rw [if_pos c14] at H
                              have c14b0 : decide (x5_1 < (l1.length : Int)) = true := decide_eq_true c14
                              clear c14
                              by_cases c15 : x6_3 < (((rd_T139 l1 x5_1).f1).length : Int)
                              · rw [if_pos c15] at H
                                have c15b0 : decide (x6_3 < (((rd_T139 l1 x5_1).f1).length : Int)) = true := decide_eq_true c15
                                clear c15
                                by_cases c16 : (rd ((rd_T101 l0 x5_1).f1) x6_3) = (rd ((rd_T139 l1 x5_1).f1) x6_3)
                                · rw [if_pos c16] at H
                                  have c16b0 : ((rd ((rd_T101 l0 x5_1).f1) x6_3) == (rd ((rd_T139 l1 x5_1).f1) x6_3)) = true := beq_iff_eq.mpr c16
                                  have c16b1 : ((rd ((rd_T101 l0 x5_1).f1) x6_3) != (rd ((rd_T139 l1 x5_1).f1) x6_3)) = false := bne_eq_false_iff_eq.mpr c16
                                  clear c16
                                  have H' := Aside0.mk H
                                  clear H
                                  have p325 : 0 ≤ (x5_1 : Int) := of_decide_eq_true (by first | (with_reducible assumption) | assumption)
                                  have q325 : x5_1 < (l0.length : Int) := of_decide_eq_true (by first | (with_reducible assumption) | assumption)
                                  obtain ⟨ad325, A325_1, c325_1, e325, hx325_0, hx325_1, hl325_1, hi325_1⟩ := at_T101 HR0.out x5_1 p325 q325
                                  cases e325
                                  have HR325_1 := Aside0.mk hi325_1
                                  have HC325_1 := Aside0.mk hl325_1
                                  clear hi325_1 hl325_1
                                  replace p325 := eq_true p325
                                  replace q325 := eq_true q325
                                  have p326 : 0 ≤ (x5_1 : Int) := of_decide_eq_true (by first | (with_reducible assumption) | assumption)
                                  have q326 : x5_1 < (l0.length : Int) := of_decide_eq_true (by first | (with_reducible assumption) | assumption)
                                  obtain ⟨ad326, A326_1, c326_1, e326, hx326_0, hx326_1, hl326_1, hi326_1⟩ := at_T101 HR0.out x5_1 p326 q326
                                  obtain rfl : ad325 = ad326 := (by injection e326)
                                  have HR326_1 := Aside0.mk hi326_1
                                  have HC326_1 := Aside0.mk hl326_1
                                  clear hi326_1 hl326_1
                                  replace p326 := eq_true p326
                                  replace q326 := eq_true q326
                                  have ea_ := Option.some.inj (hx325_1.symm.trans hx326_1)
                                  injection ea_ with ea_ en_ ec_
                                  subst ea_
                                  subst ec_
                                  clear en_
                                  have p327 : 0 ≤ (x6_3 : Int) := of_decide_eq_true (by first | (with_reducible assumption) | assumption)
                                  have q327 : x6_3 < (((rd_T101 l0 x5_1).f1).length : Int) := of_decide_eq_true (by first | (with_reducible assumption) | assumption)
                                  obtain ⟨ad327, e327, hx327_0⟩ := Kd.at_int HR326_1.out x6_3 p327 q327
                                  cases e327
                                  replace p327 := eq_true p327
                                  replace q327 := eq_true q327
                                  have p328 : 0 ≤ (x5_1 : Int) := of_decide_eq_true (by first | (with_reducible assumption) | assumption)
                                  have q328 : x5_1 < (l1.length : Int) := of_decide_eq_true (by first | (with_reducible assumption) | assumption)
                                  obtain ⟨ad328, A328_1, c328_1, e328, hx328_0, hx328_1, hl328_1, hi328_1⟩ := at_T139 HR1.out x5_1 p328 q328
                                  cases e328
                                  have HR328_1 := Aside0.mk hi328_1
                                  have HC328_1 := Aside0.mk hl328_1
                                  clear hi328_1 hl328_1
                                  replace p328 := eq_true p328
                                  replace q328 := eq_true q328
                                  have p329 : 0 ≤ (x6_3 : Int) := of_decide_eq_true (by first | (with_reducible assumption) | assumption)
                                  have q329 : x6_3 < (((rd_T139 l1 x5_1).f1).length : Int) := of_decide_eq_true (by first | (with_reducible assumption) | assumption)
                                  obtain ⟨ad329, e329, hx329_0⟩ := Kd.at_int HR328_1.out x6_3 p329 q329
                                  cases e329
                                  replace p329 := eq_true p329
                                  replace q329 := eq_true q329
                                  go_wp2
                                  repeat (go_quiet (fail); try go_wp2)
                                  go_roundg k3
                                  case measure => have := HK1.out; have := HJ4.out; have := HK3.out; omega
                                  case rel => exact ⟨(wrap64 (x6_3 + 1)), (by first | rfl | (simp; done) | (simp [*]; done)), H', ⟨by have := HK1.out; have := HJ4.out; have := HK3.out; omega⟩, by repeat (first | exact Drawn0.refl _ | apply Drawn0.step)⟩
                                · rw [if_neg c16] at H
                                  have c16b0 : ((rd ((rd_T101 l0 x5_1).f1) x6_3) == (rd ((rd_T139 l1 x5_1).f1) x6_3)) = false := beq_eq_false_iff_ne.mpr c16
                                  have c16b1 : ((rd ((rd_T101 l0 x5_1).f1) x6_3) != (rd ((rd_T139 l1 x5_1).f1) x6_3)) = true := bne_iff_ne.mpr c16
                                  obtain rfl := Option.some.inj H
                                  have p325 : 0 ≤ (x5_1 : Int) := of_decide_eq_true (by first | (with_reducible assumption) | assumption)
                                  have q325 : x5_1 < (l0.length : Int) := of_decide_eq_true (by first | (with_reducible assumption) | assumption)
                                  obtain ⟨ad325, A325_1, c325_1, e325, hx325_0, hx325_1, hl325_1, hi325_1⟩ := at_T101 HR0.out x5_1 p325 q325
                                  cases e325
                                  have HR325_1 := Aside0.mk hi325_1
                                  have HC325_1 := Aside0.mk hl325_1
                                  clear hi325_1 hl325_1
                                  replace p325 := eq_true p325
                                  replace q325 := eq_true q325
                                  have p326 : 0 ≤ (x5_1 : Int) := of_decide_eq_true (by first | (with_reducible assumption) | assumption)
                                  have q326 : x5_1 < (l0.length : Int) := of_decide_eq_true (by first | (with_reducible assumption) | assumption)
                                  obtain ⟨ad326, A326_1, c326_1, e326, hx326_0, hx326_1, hl326_1, hi326_1⟩ := at_T101 HR0.out x5_1 p326 q326
                                  obtain rfl : ad325 = ad326 := (by injection e326)
                                  have HR326_1 := Aside0.mk hi326_1
                                  have HC326_1 := Aside0.mk hl326_1
                                  clear hi326_1 hl326_1
                                  replace p326 := eq_true p326
                                  replace q326 := eq_true q326
                                  have ea_ := Option.some.inj (hx325_1.symm.trans hx326_1)
                                  injection ea_ with ea_ en_ ec_
                                  subst ea_
                                  subst ec_
                                  clear en_
                                  have p327 : 0 ≤ (x6_3 : Int) := of_decide_eq_true (by first | (with_reducible assumption) | assumption)
                                  have q327 : x6_3 < (((rd_T101 l0 x5_1).f1).length : Int) := of_decide_eq_true (by first | (with_reducible assumption) | assumption)
                                  obtain ⟨ad327, e327, hx327_0⟩ := Kd.at_int HR326_1.out x6_3 p327 q327
                                  cases e327
                                  replace p327 := eq_true p327
                                  replace q327 := eq_true q327
                                  have p328 : 0 ≤ (x5_1 : Int) := of_decide_eq_true (by first | (with_reducible assumption) | assumption)
                                  have q328 : x5_1 < (l1.length : Int) := of_decide_eq_true (by first | (with_reducible assumption) | assumption)
                                  obtain ⟨ad328, A328_1, c328_1, e328, hx328_0, hx328_1, hl328_1, hi328_1⟩ := at_T139 HR1.out x5_1 p328 q328
                                  cases e328
                                  have HR328_1 := Aside0.mk hi328_1
                                  have HC328_1 := Aside0.mk hl328_1
                                  clear hi328_1 hl328_1
                                  replace p328 := eq_true p328
                                  replace q328 := eq_true q328
                                  have p329 : 0 ≤ (x6_3 : Int) := of_decide_eq_true (by first | (with_reducible assumption) | assumption)
                                  have q329 : x6_3 < (((rd_T139 l1 x5_1).f1).length : Int) := of_decide_eq_true (by first | (with_reducible assumption) | assumption)
                                  obtain ⟨ad329, e329, hx329_0⟩ := Kd.at_int HR328_1.out x6_3 p329 q329
                                  cases e329
                                  replace p329 := eq_true p329
                                  replace q329 := eq_true q329
                                  go_wp2
                                  repeat (go_quiet (fail); try go_wp2)
                                  go_ret
                                  exact ⟨by first | rfl | (simp; done) | (simp [*]; done), by repeat (first | exact Drawn0.refl _ | apply Drawn0.step)⟩
                              · rw [if_neg c15] at H
                                exact absurd H (by simp)
                            · rw [if_neg c14] at H
                              exact absurd H (by simp)
                          · rw [if_neg c13] at H
                            exact absurd H (by simp)
                        · rw [if_neg c12] at H
                          have c12b0 : decide (x6_3 < (((rd_T101 l0 x5_1).f1).length : Int)) = false := decide_eq_false c12
                          clear c12
                          have H' := Aside0.mk H
                          clear H
                          have p325 : 0 ≤ (x5_1 : Int) := of_decide_eq_true (by first | (with_reducible assumption) | assumption)
                          have q325 : x5_1 < (l0.length : Int) := of_decide_eq_true (by first | (with_reducible assumption) | assumption)
                          obtain ⟨ad325, A325_1, c325_1, e325, hx325_0, hx325_1, hl325_1, hi325_1⟩ := at_T101 HR0.out x5_1 p325 q325
                          cases e325
                          have HR325_1 := Aside0.mk hi325_1
                          have HC325_1 := Aside0.mk hl325_1
                          clear hi325_1 hl325_1
                          replace p325 := eq_true p325
                          replace q325 := eq_true q325
                          go_wp2
                          repeat (go_quiet (fail); try go_wp2)
                          go_roundg k3
                          case measure => have := HK1.out; have := HJ4.out; have := HK3.out; omega
                          case rel => exact ⟨(wrap64 (x5_1 + 1)), (by first | rfl | (simp; done) | (simp [*]; done)), H', ⟨by have := HK1.out; have := HJ4.out; have := HK3.out; omega⟩, by repeat (first | exact Drawn0.refl _ | apply Drawn0.step)⟩
                      · rw [if_neg c11] at H
                        exact absurd H (by simp)
                    · rw [if_neg c10] at H
                      exact absurd H (by simp)
        · rw [if_neg c4] at H
          have c4b0 : decide (x5_1 < (l0.length : Int)) = false := decide_eq_false c4
          clear c4
          obtain rfl := Option.some.inj H
          go_wp2
          repeat (go_quiet (fail); try go_wp2)
          go_ret
          exact ⟨by first | rfl | (simp; done) | (simp [*]; done), by repeat (first | exact Drawn0.refl _ | apply Drawn0.step)⟩
  · rw [if_neg c3] at H
    have c3b0 : ((l0.length : Int) == (l1.length : Int)) = false := beq_eq_false_iff_ne.mpr c3
    have c3b1 : ((l0.length : Int) != (l1.length : Int)) = true := bne_iff_ne.mpr c3
    have c3b2 : (l0.length == l1.length) = false := by first | simpa using c3 | (simp at c3 ⊢; omega)
    obtain rfl := Option.some.inj H
    go_enter Try.func50, Try.ntmps50
    go_wp2
    repeat (go_quiet (fail); try go_wp2)
    go_ret
    exact ⟨by first | rfl | (simp; done) | (simp [*]; done), by repeat (first | exact Drawn0.refl _ | apply Drawn0.step)⟩

/-! ### rubricatorref08_some: function 71 -/
def rubricatorref08_some.l0 : Nat → Int → Int → Bool → List Int → Int → List Int → List Int → Int → Option (List Int)
  | 0, _, _, _, _, _, _, _, _ => none
  | k + 1, x1, x2, x3, x9, x10, x331000, x331001, x331002 => if x10 < (x331000.length : Int) then (if 0 ≤ x10 then (if (rd x331000 x10) = x1 then (if x3 = true then (if x10 < (x331001.length : Int) then (if (rd x331001 x10) = x2 then (if x9.length < 35184372088832 then (rubricatorref08_some.l0 k x1 x2 x3 (x9 ++ [(x10) % 4294967296]) (wrap64 (x10 + 1)) x331000 x331001 x331002) else (none)) else (rubricatorref08_some.l0 k x1 x2 x3 x9 (wrap64 (x10 + 1)) x331000 x331001 x331002)) else (none)) else (if x9.length < 35184372088832 then (rubricatorref08_some.l0 k x1 x2 x3 (x9 ++ [(x10) % 4294967296]) (wrap64 (x10 + 1)) x331000 x331001 x331002) else (none))) else (rubricatorref08_some.l0 k x1 x2 x3 x9 (wrap64 (x10 + 1)) x331000 x331001 x331002)) else (none)) else (some x9)
def rubricatorref08_some.f (k : Nat) (l0_0 : List Int) (l0_1 : List Int) (a0_2 : Int) (a1 : Int) (a2 : Int) (a3 : Bool) : Option (List Int) := rubricatorref08_some.l0 k a1 a2 a3 ([] : List Int) 0 l0_0 l0_1 a0_2
theorem rubricatorref08_some.mono_l : ∀ k, (∀ y0 y1 y2 y3 y4 y5 y6 y7, LeO (rubricatorref08_some.l0 k y0 y1 y2 y3 y4 y5 y6 y7) (rubricatorref08_some.l0 (k + 1) y0 y1 y2 y3 y4 y5 y6 y7))
  | 0 => fun _ _ _ _ _ _ _ _ r h => by simp [rubricatorref08_some.l0] at h
  | k + 1 => by
    have ih0 := rubricatorref08_some.mono_l k
    · intro y0 y1 y2 y3 y4 y5 y6 y7
      unfold rubricatorref08_some.l0
      repeat' first
      | (with_reducible exact ih0 _ _ _ _ _ _ _ _)
      | (with_reducible exact LeO.refl _)
      | (with_reducible exact LeO.none _)
      | (with_reducible refine LeO.ite ?_ ?_)
      | (with_reducible refine LeO.bind ?_ (fun _ => ?_))
      | exact ih0 _ _ _ _ _ _ _ _
      | exact LeO.none _
      | refine LeO.ite ?_ ?_
      | refine LeO.bind ?_ (fun _ => ?_)
theorem rubricatorref08_some.mono : ∀ a0 a1 a2 a3 a4 a5 k, LeO (rubricatorref08_some.f k a0 a1 a2 a3 a4 a5) (rubricatorref08_some.f (k + 1) a0 a1 a2 a3 a4 a5) := by
  intro a0 a1 a2 a3 a4 a5 k
  have ih0 := rubricatorref08_some.mono_l k
  unfold rubricatorref08_some.f
  repeat' first
      | (with_reducible exact ih0 _ _ _ _ _ _ _ _)
      | (with_reducible exact LeO.refl _)
      | (with_reducible exact LeO.none _)
      | (with_reducible refine LeO.ite ?_ ?_)
      | (with_reducible refine LeO.bind ?_ (fun _ => ?_))
      | exact ih0 _ _ _ _ _ _ _ _
      | exact LeO.none _
      | refine LeO.ite ?_ ?_
      | refine LeO.bind ?_ (fun _ => ?_)
set_option maxHeartbeats 8000000 in
set_option maxRecDepth 100000 in
theorem rubricatorref08_some.calls (k : Nat) (A0_0 : Option Addr) (c0_0 : Nat) (l0_0 : List Int) (A0_1 : Option Addr) (c0_1 : Nat) (l0_1 : List Int) (a0_2 : Int) (a1 : Int) (a2 : Int) (a3 : Bool) (r : List Int) (w : World) (hr0_0 : Kd.C (Kd.int .i64) w A0_0 l0_0.length l0_0) (hc0_0 : l0_0.length ≤ c0_0) (hr0_1 : Kd.C (Kd.int .u64) w A0_1 l0_1.length l0_1) (hc0_1 : l0_1.length ≤ c0_1) (h : rubricatorref08_some.f k l0_0 l0_1 a0_2 a1 a2 a3 = some r) :
    Calls Try.prog 71 #[.agg #[.slice A0_0 l0_0.length c0_0, .slice A0_1 l0_1.length c0_1, .int .i64 a0_2], .int .i64 a1, .int .u64 a2, .bool a3] w fun e w' => ∃ v0_ : Value, e = .returned (v0_) ∧ Kd.R (Kd.int .u32) 61 w' w.heap.size (fun _ => True) v0_ r ∧ Below w.heap.size w w' := by
  have hu77 := Try.underlying77
  have HR0_0 := Aside0.mk hr0_0
  have HC0_0 := Aside0.mk hc0_0
  clear hr0_0 hc0_0
  have HR0_1 := Aside0.mk hr0_1
  have HC0_1 := Aside0.mk hc0_1
  clear hr0_1 hc0_1
  have HB := Aside0.mk (Below.refl w.heap.size w)
  have H : (rubricatorref08_some.l0 k a1 a2 a3 ([] : List Int) 0 l0_0 l0_1 a0_2) = some r := h
  clear h
  have H' := Aside0.mk H
  clear H
  go_enter Try.func71, Try.ntmps71
  go_wp2_with (first | ((with_reducible refine gate_dst (N := 4) rfl ?_); refine box_event ?hg (N := 4) ?hd (cs := #[.slice A0_0 l0_0.length c0_0, .slice A0_1 l0_1.length c0_1, .int .i64 a0_2]) (t := 77) ?hr ?_; (case hd => rfl); (case hg => rfl); (case hr => first | (go_simp; done) | (go_simp; rfl)); intro gb330 hg w5 hbox hb; have n0_ := Aside0.mk (below_step (by repeat (first | (with_reducible first | exact HB.out | apply below_alloc | apply pw_below_drewN | apply below_drew1) | exact HB.out)) hb); have n1_ := Aside0.mk (hbox); have n2_ := Aside0.mk ((by rw [hg]; exact (below_size (by repeat (first | (with_reducible first | exact HB.out | apply below_alloc | apply pw_below_drewN | apply below_drew1) | exact HB.out))) : w.heap.size ≤ gb330)); have n3_ := Aside0.mk ((by rw [hg]; exact (below_size (by repeat (first | (with_reducible first | exact HB.out | apply below_alloc | apply pw_below_drewN | apply below_drew1) | exact HB.out))) : w.heap.size ≤ gb330)); clear HB; have HB := n0_; have BK330 := n1_; have GW330 := n2_; have GE330 := n3_; clear n0_ n1_ n2_ n3_; clear hb hbox hg))
  go_loopg [9, 10] k (fun kq v9 v10 w' => ∃ (x9_1 : List Int) (x10_1 : Int), v10 = .int .i64 x10_1 ∧ Aside0 (rubricatorref08_some.l0 kq a1 a2 a3 x9_1 x10_1 l0_0 l0_1 a0_2 = some r) ∧ Aside0 (kq ≤ k) ∧ Aside0 (Kd.R (Kd.int .u32) 61 w' w.heap.size (fun _ => True) v9 x9_1) ∧ Aside0 (w'.heap[gb330]? = some (.cells #[(.slice A0_0 l0_0.length c0_0), (.slice A0_1 l0_1.length c0_1), .int .i64 a0_2] 77 (0, 0))) ∧ Aside0 (Below w.heap.size w w'))
  case atStart => exact ⟨(([] : List Int)), (0), (by first | rfl | (simp; done) | (simp [*]; done)), H', ⟨Nat.le_refl _⟩, ⟨by first | exact Kd.R_nil _ _ _ _ _ | exact Kd.N_nil _ _ _ _ _ | exact Kd.V_nil _ _ _ _ _ | exact Kd.Q_nil _ _ _ _ _ | exact Kd.S_nil _ _ _ _ _⟩, ⟨by (with_reducible repeat (first | refine blk_drewN ?_ _ | refine blk_drew ?_ | refine blk_alloc ?_ _)); exact BK330.out⟩, ⟨by repeat (first | (with_reducible first | exact HB.out | apply below_alloc | apply pw_below_drewN | apply below_drew1 | refine below_set ?_ GE330.out) | exact HB.out)⟩⟩
  case round =>
    clear H'
    try clear p2
    obtain ⟨x9_1, x10_1, rfl, HA, HK1, HO_9, BK330, HB⟩ := hrel
    cases gk with
    | zero => exact absurd HA.out (by simp [rubricatorref08_some.l0])
    | succ k1 =>
      have H := HA.out
      clear HA
      simp only [rubricatorref08_some.l0] at H
      by_cases c6 : x10_1 < (l0_0.length : Int)
      · rw [if_pos c6] at H
        have c6b0 : decide (x10_1 < (l0_0.length : Int)) = true := decide_eq_true c6
        clear c6
        by_cases c7 : 0 ≤ x10_1
        · rw [if_pos c7] at H
          have c7b0 : decide (0 ≤ x10_1) = true := decide_eq_true c7
          clear c7
          by_cases c8 : (rd l0_0 x10_1) = a1
          · rw [if_pos c8] at H
            have c8b0 : ((rd l0_0 x10_1) == a1) = true := beq_iff_eq.mpr c8
            have c8b1 : ((rd l0_0 x10_1) != a1) = false := bne_eq_false_iff_eq.mpr c8
            clear c8
            by_cases c9 : a3 = true
            · subst c9
              have H1 : (if x10_1 < (l0_1.length : Int) then (if (rd l0_1 x10_1) = a2 then (if x9_1.length < 35184372088832 then (rubricatorref08_some.l0 k1 a1 a2 true (x9_1 ++ [(x10_1) % 4294967296]) (wrap64 (x10_1 + 1)) l0_0 l0_1 a0_2) else (none)) else (rubricatorref08_some.l0 k1 a1 a2 true x9_1 (wrap64 (x10_1 + 1)) l0_0 l0_1 a0_2)) else (none)) = some r := by rw [if_pos rfl] at H; exact H
              clear H
              have H := H1
              clear H1
              by_cases c10 : x10_1 < (l0_1.length : Int)
              · rw [if_pos c10] at H
                have c10b0 : decide (x10_1 < (l0_1.length : Int)) = true := decide_eq_true c10
                clear c10
                by_cases c11 : (rd l0_1 x10_1) = a2
                · rw [if_pos c11] at H
                  have c11b0 : ((rd l0_1 x10_1) == a2) = true := beq_iff_eq.mpr c11
                  have c11b1 : ((rd l0_1 x10_1) != a2) = false := bne_eq_false_iff_eq.mpr c11
                  clear c11
                  by_cases c12 : x9_1.length < 35184372088832
                  · rw [if_pos c12] at H
                    have LMc12 := Aside0.mk c12
                    clear c12
                    obtain ⟨y333, hy333⟩ : ∃ y_ : List Int, y_ = (x9_1 ++ [(x10_1) % 4294967296]) := ⟨_, rfl⟩
                    replace H : (rubricatorref08_some.l0 k1 a1 a2 true y333 (wrap64 (x10_1 + 1)) l0_0 l0_1 a0_2) = some r := by first | (rw [hy333]; with_reducible exact H) | (have H2_ := (Option.bind_some _ _).symm.trans H; rw [hy333]; with_reducible exact H2_) | (have H2_ := (Option.bind_some _ _).symm.trans H; with_reducible exact H2_) | with_reducible exact H | (rw [hy333]; exact H) | exact H
                    have Ny333 := Aside0.mk hy333
                    clear hy333
                    have H' := Aside0.mk H
                    clear H
                    have hcz13_0 : wr.cell? ⟨gb330, 0, none⟩ = some (.slice A0_0 l0_0.length c0_0) := (blk_cell BK330.out 0).trans rfl
                    have hcz13_1 : wr.cell? ⟨gb330, 1, none⟩ = some (.slice A0_1 l0_1.length c0_1) := (blk_cell BK330.out 1).trans rfl
                    have hcz13_2 : wr.cell? ⟨gb330, 2, none⟩ = some (.int .i64 a0_2) := (blk_cell BK330.out 2).trans rfl
                    have hfz13_0 := blk_frozen BK330.out 0
                    have hfz13_1 := blk_frozen BK330.out 1
                    have hfz13_2 := blk_frozen BK330.out 2
                    have p331 : 0 ≤ (x10_1 : Int) := of_decide_eq_true (by first | (with_reducible assumption) | assumption)
                    have q331 : x10_1 < (l0_0.length : Int) := of_decide_eq_true (by first | (with_reducible assumption) | assumption)
                    obtain ⟨ad331, e331, hx331_0⟩ := Kd.at_int HR0_0.out x10_1 p331 q331
                    cases e331
                    replace hx331_0 := (HB.out.cell (World.block_lt_of_cell? w _ hx331_0)).trans hx331_0
                    replace p331 := eq_true p331
                    replace q331 := eq_true q331
                    have p332 : 0 ≤ (x10_1 : Int) := of_decide_eq_true (by first | (with_reducible assumption) | assumption)
                    have q332 : x10_1 < (l0_1.length : Int) := of_decide_eq_true (by first | (with_reducible assumption) | assumption)
                    obtain ⟨ad332, e332, hx332_0⟩ := Kd.at_int HR0_1.out x10_1 p332 q332
                    cases e332
                    replace hx332_0 := (HB.out.cell (World.block_lt_of_cell? w _ hx332_0)).trans hx332_0
                    replace p332 := eq_true p332
                    replace q332 := eq_true q332
                    go_wp2_with (first | ((with_reducible refine gate_builtin (b := .append) (xs := #[.tmp 38, .tmp 41]) rfl ?_); at_builtin; refine Kd.R_append (Kd.int .u32) (w0 := w) w.heap.size rfl (.tmp 38) (.tmp 41) 82 61 (.int .u32 0) 4 rfl Try.underlying82 info61 rfl (by decide) (by omega) u9 x9_1 ((x10_1) % 4294967296) [.int .u32 ((x10_1) % 4294967296)] (fun _ => True) (fun _ => False) rfl rfl ?aP (fun _ hk => hk.elim) ?aF ?aO ?aB ?aS ?aL ?_; (case aP => exact rfl); (case aB => exact (by repeat (first | (with_reducible first | exact HB.out | apply below_alloc | apply pw_below_drewN | apply below_drew1 | refine below_set ?_ GE330.out) | exact HB.out))); (case aF => exact (fun _ _ => trivial)); (case aO => exact (by (with_reducible repeat (first | apply Kd.R_alloc | apply Kd.R_drewN | apply Kd.R_drew)); exact HO_9.out)); (case aS => exact (below_size (by repeat (first | (with_reducible first | exact HB.out | apply below_alloc | apply pw_below_drewN | apply below_drew1 | refine below_set ?_ GE330.out) | exact HB.out)))); (case aL => have := LMc12.out; omega); intro v334 w14 ho hb hg hat; rw [← Ny333.out] at ho; have n0_ := Aside0.mk (blk_grown (g := gb330) (o := .cells #[.slice (some ad331) l0_0.length c0_0, .slice (some ad332) l0_1.length c0_1, .int .i64 a0_2] 77 (0, 0)) (by (with_reducible repeat (first | refine blk_drewN ?_ _ | refine blk_drew ?_ | refine blk_alloc ?_ _)); exact BK330.out) hg (Kd.R_ne HO_9.out BK330.out (by decide))); have n1_ := Aside0.mk (hb); have n2_ := Aside0.mk (ho); clear BK330; clear HB; clear HO_9; have BK330 := n0_; have HB := n1_; have HO335 := n2_; clear n0_ n1_ n2_; clear ho hb hg hat))
                    go_roundg k1
                    case measure => have := HK1.out; omega
                    case rel => exact ⟨(y333), (wrap64 (x10_1 + 1)), (by first | rfl | (simp; done) | (simp [*]; done)), H', ⟨by have := HK1.out; omega⟩, ⟨by (with_reducible repeat (first | apply Kd.R_alloc | apply Kd.R_drewN | apply Kd.R_drew)); exact HO335.out⟩, ⟨by (with_reducible repeat (first | refine blk_drewN ?_ _ | refine blk_drew ?_ | refine blk_alloc ?_ _)); exact BK330.out⟩, ⟨by repeat (first | (with_reducible first | exact HB.out | apply below_alloc | apply pw_below_drewN | apply below_drew1 | refine below_set ?_ GE330.out) | exact HB.out)⟩⟩
                  · rw [if_neg c12] at H
                    exact absurd H (by simp)
                · rw [if_neg c11] at H
                  have c11b0 : ((rd l0_1 x10_1) == a2) = false := beq_eq_false_iff_ne.mpr c11
                  have c11b1 : ((rd l0_1 x10_1) != a2) = true := bne_iff_ne.mpr c11
                  have H' := Aside0.mk H
                  clear H
                  have hcz15_0 : wr.cell? ⟨gb330, 0, none⟩ = some (.slice A0_0 l0_0.length c0_0) := (blk_cell BK330.out 0).trans rfl
                  have hcz15_1 : wr.cell? ⟨gb330, 1, none⟩ = some (.slice A0_1 l0_1.length c0_1) := (blk_cell BK330.out 1).trans rfl
                  have hcz15_2 : wr.cell? ⟨gb330, 2, none⟩ = some (.int .i64 a0_2) := (blk_cell BK330.out 2).trans rfl
                  have hfz15_0 := blk_frozen BK330.out 0
                  have hfz15_1 := blk_frozen BK330.out 1
                  have hfz15_2 := blk_frozen BK330.out 2
                  have p331 : 0 ≤ (x10_1 : Int) := of_decide_eq_true (by first | (with_reducible assumption) | assumption)
                  have q331 : x10_1 < (l0_0.length : Int) := of_decide_eq_true (by first | (with_reducible assumption) | assumption)
                  obtain ⟨ad331, e331, hx331_0⟩ := Kd.at_int HR0_0.out x10_1 p331 q331
                  cases e331
                  replace hx331_0 := (HB.out.cell (World.block_lt_of_cell? w _ hx331_0)).trans hx331_0
                  replace p331 := eq_true p331
                  replace q331 := eq_true q331
                  have p332 : 0 ≤ (x10_1 : Int) := of_decide_eq_true (by first | (with_reducible assumption) | assumption)
                  have q332 : x10_1 < (l0_1.length : Int) := of_decide_eq_true (by first | (with_reducible assumption) | assumption)
                  obtain ⟨ad332, e332, hx332_0⟩ := Kd.at_int HR0_1.out x10_1 p332 q332
                  cases e332
                  replace hx332_0 := (HB.out.cell (World.block_lt_of_cell? w _ hx332_0)).trans hx332_0
                  replace p332 := eq_true p332
                  replace q332 := eq_true q332
                  go_wp2
                  go_roundg k1
                  case measure => have := HK1.out; omega
                  case rel => exact ⟨(x9_1), (wrap64 (x10_1 + 1)), (by first | rfl | (simp; done) | (simp [*]; done)), H', ⟨by have := HK1.out; omega⟩, ⟨by (with_reducible repeat (first | apply Kd.R_alloc | apply Kd.R_drewN | apply Kd.R_drew)); exact HO_9.out⟩, ⟨by (with_reducible repeat (first | refine blk_drewN ?_ _ | refine blk_drew ?_ | refine blk_alloc ?_ _)); exact BK330.out⟩, ⟨by repeat (first | (with_reducible first | exact HB.out | apply below_alloc | apply pw_below_drewN | apply below_drew1 | refine below_set ?_ GE330.out) | exact HB.out)⟩⟩
              · rw [if_neg c10] at H
                exact absurd H (by simp)
            · replace c9 := Bool.eq_false_iff.mpr c9
              subst c9
              have H1 : (if x9_1.length < 35184372088832 then (rubricatorref08_some.l0 k1 a1 a2 false (x9_1 ++ [(x10_1) % 4294967296]) (wrap64 (x10_1 + 1)) l0_0 l0_1 a0_2) else (none)) = some r := by rw [if_neg (show ¬ (false = true) by decide)] at H; exact H
              clear H
              have H := H1
              clear H1
              by_cases c16 : x9_1.length < 35184372088832
              · rw [if_pos c16] at H
                have LMc16 := Aside0.mk c16
                clear c16
                obtain ⟨y336, hy336⟩ : ∃ y_ : List Int, y_ = (x9_1 ++ [(x10_1) % 4294967296]) := ⟨_, rfl⟩
                replace H : (rubricatorref08_some.l0 k1 a1 a2 false y336 (wrap64 (x10_1 + 1)) l0_0 l0_1 a0_2) = some r := by first | (rw [hy336]; with_reducible exact H) | (have H2_ := (Option.bind_some _ _).symm.trans H; rw [hy336]; with_reducible exact H2_) | (have H2_ := (Option.bind_some _ _).symm.trans H; with_reducible exact H2_) | with_reducible exact H | (rw [hy336]; exact H) | exact H
                have Ny336 := Aside0.mk hy336
                clear hy336
                have H' := Aside0.mk H
                clear H
                have hcz17_0 : wr.cell? ⟨gb330, 0, none⟩ = some (.slice A0_0 l0_0.length c0_0) := (blk_cell BK330.out 0).trans rfl
                have hcz17_1 : wr.cell? ⟨gb330, 1, none⟩ = some (.slice A0_1 l0_1.length c0_1) := (blk_cell BK330.out 1).trans rfl
                have hcz17_2 : wr.cell? ⟨gb330, 2, none⟩ = some (.int .i64 a0_2) := (blk_cell BK330.out 2).trans rfl
                have hfz17_0 := blk_frozen BK330.out 0
                have hfz17_1 := blk_frozen BK330.out 1
                have hfz17_2 := blk_frozen BK330.out 2
                have p331 : 0 ≤ (x10_1 : Int) := of_decide_eq_true (by first | (with_reducible assumption) | assumption)
                have q331 : x10_1 < (l0_0.length : Int) := of_decide_eq_true (by first | (with_reducible assumption) | assumption)
                obtain ⟨ad331, e331, hx331_0⟩ := Kd.at_int HR0_0.out x10_1 p331 q331
                cases e331
                replace hx331_0 := (HB.out.cell (World.block_lt_of_cell? w _ hx331_0)).trans hx331_0
                replace p331 := eq_true p331
                replace q331 := eq_true q331
                go_wp2_with (first | ((with_reducible refine gate_builtin (b := .append) (xs := #[.tmp 38, .tmp 41]) rfl ?_); at_builtin; refine Kd.R_append (Kd.int .u32) (w0 := w) w.heap.size rfl (.tmp 38) (.tmp 41) 82 61 (.int .u32 0) 4 rfl Try.underlying82 info61 rfl (by decide) (by omega) u9 x9_1 ((x10_1) % 4294967296) [.int .u32 ((x10_1) % 4294967296)] (fun _ => True) (fun _ => False) rfl rfl ?aP (fun _ hk => hk.elim) ?aF ?aO ?aB ?aS ?aL ?_; (case aP => exact rfl); (case aB => exact (by repeat (first | (with_reducible first | exact HB.out | apply below_alloc | apply pw_below_drewN | apply below_drew1 | refine below_set ?_ GE330.out) | exact HB.out))); (case aF => exact (fun _ _ => trivial)); (case aO => exact (by (with_reducible repeat (first | apply Kd.R_alloc | apply Kd.R_drewN | apply Kd.R_drew)); exact HO_9.out)); (case aS => exact (below_size (by repeat (first | (with_reducible first | exact HB.out | apply below_alloc | apply pw_below_drewN | apply below_drew1 | refine below_set ?_ GE330.out) | exact HB.out)))); (case aL => have := LMc16.out; omega); intro v337 w18 ho hb hg hat; rw [← Ny336.out] at ho; have n0_ := Aside0.mk (blk_grown (g := gb330) (o := .cells #[.slice (some ad331) l0_0.length c0_0, .slice A0_1 l0_1.length c0_1, .int .i64 a0_2] 77 (0, 0)) (by (with_reducible repeat (first | refine blk_drewN ?_ _ | refine blk_drew ?_ | refine blk_alloc ?_ _)); exact BK330.out) hg (Kd.R_ne HO_9.out BK330.out (by decide))); have n1_ := Aside0.mk (hb); have n2_ := Aside0.mk (ho); clear BK330; clear HB; clear HO_9; have BK330 := n0_; have HB := n1_; have HO338 := n2_; clear n0_ n1_ n2_; clear ho hb hg hat))
                go_roundg k1
                case measure => have := HK1.out; omega
                case rel => exact ⟨(y336), (wrap64 (x10_1 + 1)), (by first | rfl | (simp; done) | (simp [*]; done)), H', ⟨by have := HK1.out; omega⟩, ⟨by (with_reducible repeat (first | apply Kd.R_alloc | apply Kd.R_drewN | apply Kd.R_drew)); exact HO338.out⟩, ⟨by (with_reducible repeat (first | refine blk_drewN ?_ _ | refine blk_drew ?_ | refine blk_alloc ?_ _)); exact BK330.out⟩, ⟨by repeat (first | (with_reducible first | exact HB.out | apply below_alloc | apply pw_below_drewN | apply below_drew1 | refine below_set ?_ GE330.out) | exact HB.out)⟩⟩
              · rw [if_neg c16] at H
                exact absurd H (by simp)
          · rw [if_neg c8] at H
            have c8b0 : ((rd l0_0 x10_1) == a1) = false := beq_eq_false_iff_ne.mpr c8
            have c8b1 : ((rd l0_0 x10_1) != a1) = true := bne_iff_ne.mpr c8
            have H' := Aside0.mk H
            clear H
            have hcz19_0 : wr.cell? ⟨gb330, 0, none⟩ = some (.slice A0_0 l0_0.length c0_0) := (blk_cell BK330.out 0).trans rfl
            have hcz19_1 : wr.cell? ⟨gb330, 1, none⟩ = some (.slice A0_1 l0_1.length c0_1) := (blk_cell BK330.out 1).trans rfl
            have hcz19_2 : wr.cell? ⟨gb330, 2, none⟩ = some (.int .i64 a0_2) := (blk_cell BK330.out 2).trans rfl
            have hfz19_0 := blk_frozen BK330.out 0
            have hfz19_1 := blk_frozen BK330.out 1
            have hfz19_2 := blk_frozen BK330.out 2
            have p331 : 0 ≤ (x10_1 : Int) := of_decide_eq_true (by first | (with_reducible assumption) | assumption)
            have q331 : x10_1 < (l0_0.length : Int) := of_decide_eq_true (by first | (with_reducible assumption) | assumption)
            obtain ⟨ad331, e331, hx331_0⟩ := Kd.at_int HR0_0.out x10_1 p331 q331
            cases e331
            replace hx331_0 := (HB.out.cell (World.block_lt_of_cell? w _ hx331_0)).trans hx331_0
            replace p331 := eq_true p331
            replace q331 := eq_true q331
            go_wp2
            go_roundg k1
            case measure => have := HK1.out; omega
            case rel => exact ⟨(x9_1), (wrap64 (x10_1 + 1)), (by first | rfl | (simp; done) | (simp [*]; done)), H', ⟨by have := HK1.out; omega⟩, ⟨by (with_reducible repeat (first | apply Kd.R_alloc | apply Kd.R_drewN | apply Kd.R_drew)); exact HO_9.out⟩, ⟨by (with_reducible repeat (first | refine blk_drewN ?_ _ | refine blk_drew ?_ | refine blk_alloc ?_ _)); exact BK330.out⟩, ⟨by repeat (first | (with_reducible first | exact HB.out | apply below_alloc | apply pw_below_drewN | apply below_drew1 | refine below_set ?_ GE330.out) | exact HB.out)⟩⟩
        · rw [if_neg c7] at H
          exact absurd H (by simp)
      · rw [if_neg c6] at H
        have c6b0 : decide (x10_1 < (l0_0.length : Int)) = false := decide_eq_false c6
        clear c6
        obtain rfl := Option.some.inj H
        have hcz20_0 : wr.cell? ⟨gb330, 0, none⟩ = some (.slice A0_0 l0_0.length c0_0) := (blk_cell BK330.out 0).trans rfl
        have hcz20_1 : wr.cell? ⟨gb330, 1, none⟩ = some (.slice A0_1 l0_1.length c0_1) := (blk_cell BK330.out 1).trans rfl
        have hcz20_2 : wr.cell? ⟨gb330, 2, none⟩ = some (.int .i64 a0_2) := (blk_cell BK330.out 2).trans rfl
        have hfz20_0 := blk_frozen BK330.out 0
        have hfz20_1 := blk_frozen BK330.out 1
        have hfz20_2 := blk_frozen BK330.out 2
        go_wp2
        go_ret
        exact ⟨_, by first | rfl | (simp [errW_none, errW_some] <;> rfl) | (simp [*, errW_none, errW_some] <;> rfl), by (with_reducible repeat (first | apply Kd.R_alloc | apply Kd.R_drewN | apply Kd.R_drew)); exact HO_9.out, by repeat (first | (with_reducible first | exact HB.out | apply below_alloc | apply pw_below_drewN | apply below_drew1 | refine below_set ?_ GE330.out) | exact HB.out)⟩

end Go.Proofs.Ythijobbhpbklmaa.PSpacePlays
