-- PRINTED BY print.sh 35421559b90ae4d0a3588c463048766b98c2df88dd9212a6774a882060cdf62d: not written by this session
import Derived.Test.YthijobbhpbklmaaPSpacePlaysx0
namespace Go.Proofs.Ythijobbhpbklmaa.PSpacePlays
open Go.RowKit Go.Proofs.YthijobbhpbklmaaW.PrintWords Go.Proofs.YthijobbhpbklmaaW.PrintLast Go.Proofs.YthijobbhpbklmaaW.PrintMore
attribute [local go_sem] max2_int min2_int max_two min_two max_three min_three max_four min_four   -- for this text's walks alone
set_option linter.unusedVariables false
set_option linter.unusedSimpArgs false

-- NOT PRINTED: function 105 (api_Page_105)

-- NOT PRINTED: function 91 (api_Page_91)

-- NOT PRINTED: function 86 (api_Page_86)

-- NOT PRINTED: function 80 (api_Page_80)

-- NOT PRINTED: function 70 (space_set_record)

-- NOT PRINTED: function 51 (space_Space_Records)

-- NOT PRINTED: function 53 (space_Space_Usable)

-- NOT PRINTED: function 37 (rubricatorlaw08_awake)

/-! ### rubricatorlaw08_few: function 38 -/
def rubricatorlaw08_few.l0 : Nat → List (S84) → Int → Option (Bool)
  | 0, _, _ => none
  | k + 1, x0, x3 => if x3 < (x0.length : Int) then (if 0 ≤ x3 then (if (((rd_T84 x0 x3).f1).length : Int) > 30 then (some false) else (rubricatorlaw08_few.l0 k x0 (wrap64 (x3 + 1)))) else (none)) else (some (decide ((x0.length : Int) ≤ 10)))
def rubricatorlaw08_few.f (k : Nat) (l0 : List (S84)) : Option (Bool) := rubricatorlaw08_few.l0 k l0 0
theorem rubricatorlaw08_few.mono_l : ∀ k, (∀ y0 y1, LeO (rubricatorlaw08_few.l0 k y0 y1) (rubricatorlaw08_few.l0 (k + 1) y0 y1))
  | 0 => fun _ _ r h => by simp [rubricatorlaw08_few.l0] at h
  | k + 1 => by
    have ih0 := rubricatorlaw08_few.mono_l k
    · intro y0 y1
      unfold rubricatorlaw08_few.l0
      repeat' first
      | (with_reducible exact ih0 _ _)
      | (with_reducible exact LeO.refl _)
      | (with_reducible exact LeO.none _)
      | (with_reducible refine LeO.ite ?_ ?_)
      | (with_reducible refine LeO.bind ?_ (fun _ => ?_))
      | exact ih0 _ _
      | exact LeO.none _
      | refine LeO.ite ?_ ?_
      | refine LeO.bind ?_ (fun _ => ?_)
theorem rubricatorlaw08_few.mono : ∀ a0 k, LeO (rubricatorlaw08_few.f k a0) (rubricatorlaw08_few.f (k + 1) a0) := by
  intro a0 k
  have ih0 := rubricatorlaw08_few.mono_l k
  unfold rubricatorlaw08_few.f
  repeat' first
      | (with_reducible exact ih0 _ _)
      | (with_reducible exact LeO.refl _)
      | (with_reducible exact LeO.none _)
      | (with_reducible refine LeO.ite ?_ ?_)
      | (with_reducible refine LeO.bind ?_ (fun _ => ?_))
      | exact ih0 _ _
      | exact LeO.none _
      | refine LeO.ite ?_ ?_
      | refine LeO.bind ?_ (fun _ => ?_)
set_option maxHeartbeats 8000000 in
set_option maxRecDepth 100000 in
theorem rubricatorlaw08_few.calls (k : Nat) (A0 : Option Addr) (c0 : Nat) (l0 : List (S84)) (r : Bool) (w : World) (hr0 : Kd.C k84 w A0 l0.length l0) (hc0 : l0.length ≤ c0) (h : rubricatorlaw08_few.f k l0 = some r) :
    Calls Try.prog 38 #[.slice A0 l0.length c0] w fun e w' => e = .returned (.bool r) ∧ Drawn0 w w' := by
  have HR0 := Aside0.mk hr0
  have HC0 := Aside0.mk hc0
  clear hr0 hc0
  have H : (rubricatorlaw08_few.l0 k l0 0) = some r := h
  clear h
  have H' := Aside0.mk H
  clear H
  go_enter Try.func38, Try.ntmps38
  go_wp2
  go_loopg [3] k (fun kq v3 w' => ∃ (x3_1 : Int), v3 = .int .i64 x3_1 ∧ Aside0 (rubricatorlaw08_few.l0 kq l0 x3_1 = some r) ∧ Aside0 (kq ≤ k) ∧ Drawn0 w w')
  case atStart => exact ⟨(0), (by first | rfl | (simp; done) | (simp [*]; done)), H', ⟨Nat.le_refl _⟩, by repeat (first | exact Drawn0.refl _ | apply Drawn0.step)⟩
  case round =>
    clear H'
    obtain ⟨x3_1, rfl, HA, HK1, ⟨m1, rfl⟩⟩ := hrel
    cases gk with
    | zero => exact absurd HA.out (by simp [rubricatorlaw08_few.l0])
    | succ k1 =>
      have H := HA.out
      clear HA
      simp only [rubricatorlaw08_few.l0] at H
      by_cases c2 : x3_1 < (l0.length : Int)
      · rw [if_pos c2] at H
        have c2b0 : decide (x3_1 < (l0.length : Int)) = true := decide_eq_true c2
        clear c2
        by_cases c3 : 0 ≤ x3_1
        · rw [if_pos c3] at H
          have c3b0 : decide (0 ≤ x3_1) = true := decide_eq_true c3
          clear c3
          by_cases c4 : (((rd_T84 l0 x3_1).f1).length : Int) > 30
          · rw [if_pos c4] at H
            have c4b0 : decide (30 < (((rd_T84 l0 x3_1).f1).length : Int)) = true := decide_eq_true c4
            have c4b1 : decide (30 < ((rd_T84 l0 x3_1).f1).length) = true := decide_eq_true (by omega)
            clear c4
            obtain rfl := Option.some.inj H
            have p230 : 0 ≤ (x3_1 : Int) := of_decide_eq_true (by first | (with_reducible assumption) | assumption)
            have q230 : x3_1 < (l0.length : Int) := of_decide_eq_true (by first | (with_reducible assumption) | assumption)
            obtain ⟨ad230, A230_1, c230_1, e230, hx230_0, hx230_1, hl230_1, hi230_1⟩ := at_T84 HR0.out x3_1 p230 q230
            cases e230
            have HR230_1 := Aside0.mk hi230_1
            have HC230_1 := Aside0.mk hl230_1
            clear hi230_1 hl230_1
            replace p230 := eq_true p230
            replace q230 := eq_true q230
            go_wp2
            go_ret
            exact ⟨by first | rfl | (simp; done) | (simp [*]; done), by repeat (first | exact Drawn0.refl _ | apply Drawn0.step)⟩
          · rw [if_neg c4] at H
            have c4b0 : decide (30 < (((rd_T84 l0 x3_1).f1).length : Int)) = false := decide_eq_false c4
            have c4b1 : decide (30 < ((rd_T84 l0 x3_1).f1).length) = false := decide_eq_false (by omega)
            clear c4
            have H' := Aside0.mk H
            clear H
            have p230 : 0 ≤ (x3_1 : Int) := of_decide_eq_true (by first | (with_reducible assumption) | assumption)
            have q230 : x3_1 < (l0.length : Int) := of_decide_eq_true (by first | (with_reducible assumption) | assumption)
            obtain ⟨ad230, A230_1, c230_1, e230, hx230_0, hx230_1, hl230_1, hi230_1⟩ := at_T84 HR0.out x3_1 p230 q230
            cases e230
            have HR230_1 := Aside0.mk hi230_1
            have HC230_1 := Aside0.mk hl230_1
            clear hi230_1 hl230_1
            replace p230 := eq_true p230
            replace q230 := eq_true q230
            go_wp2
            go_roundg k1
            case measure => have := HK1.out; omega
            case rel => exact ⟨(wrap64 (x3_1 + 1)), (by first | rfl | (simp; done) | (simp [*]; done)), H', ⟨by have := HK1.out; omega⟩, by repeat (first | exact Drawn0.refl _ | apply Drawn0.step)⟩
        · rw [if_neg c3] at H
          exact absurd H (by simp)
      · rw [if_neg c2] at H
        have c2b0 : decide (x3_1 < (l0.length : Int)) = false := decide_eq_false c2
        clear c2
        obtain rfl := Option.some.inj H
        go_wp2
        go_ret
        exact ⟨by first | rfl | (simp; done) | (simp [*]; done), by repeat (first | exact Drawn0.refl _ | apply Drawn0.step)⟩

/-! ### rubricatorlaw08_records: function 39 -/
mutual
def rubricatorlaw08_records.l0 : Nat → List (S84) → List (S101) → List (S139) → Int → Option ((List (S101)) × (List (S139)))
  | 0, _, _, _, _ => none
  | k + 1, x0, x4, x5, x6 => if x6 < (x0.length : Int) then (rubricatorlaw08_records.l1 k x0 x4 x5 x6 ([] : List Int) 0) else (some (x4, x5))
def rubricatorlaw08_records.l1 : Nat → List (S84) → List (S101) → List (S139) → Int → List Int → Int → Option ((List (S101)) × (List (S139)))
  | 0, _, _, _, _, _, _ => none
  | k + 1, x0, x4, x5, x6, x7, x8 => if 0 ≤ x6 then (if x6 < (x0.length : Int) then (if x8 < (((rd_T84 x0 x6).f1).length : Int) then (if 0 ≤ x8 then (if x7.length < 35184372088832 then (rubricatorlaw08_records.l1 k x0 x4 x5 x6 (x7 ++ [rd ((rd_T84 x0 x6).f1) x8]) (wrap64 (x8 + 1))) else (none)) else (none)) else (if x4.length < 4398046511104 then (if x5.length < 4398046511104 then (rubricatorlaw08_records.l0 k x0 (x4 ++ [(⟨(rd_T84 x0 x6).f0, x7⟩ : S101)]) (x5 ++ [(⟨(rd_T84 x0 x6).f0, (rd_T84 x0 x6).f1⟩ : S139)]) (wrap64 (x6 + 1))) else (none)) else (none))) else (none)) else (none)
end
def rubricatorlaw08_records.f (k : Nat) (l0 : List (S84)) : Option ((List (S101)) × (List (S139))) := rubricatorlaw08_records.l0 k l0 ([] : List (S101)) ([] : List (S139)) 0
theorem rubricatorlaw08_records.mono_l : ∀ k, (∀ y0 y1 y2 y3, LeO (rubricatorlaw08_records.l0 k y0 y1 y2 y3) (rubricatorlaw08_records.l0 (k + 1) y0 y1 y2 y3)) ∧ (∀ y0 y1 y2 y3 y4 y5, LeO (rubricatorlaw08_records.l1 k y0 y1 y2 y3 y4 y5) (rubricatorlaw08_records.l1 (k + 1) y0 y1 y2 y3 y4 y5))
  | 0 => ⟨fun _ _ _ _ r h => by simp [rubricatorlaw08_records.l0] at h, fun _ _ _ _ _ _ r h => by simp [rubricatorlaw08_records.l1] at h⟩
  | k + 1 => by
    obtain ⟨ih0, ih1⟩ := rubricatorlaw08_records.mono_l k
    refine ⟨?_, ?_⟩
    · intro y0 y1 y2 y3
      unfold rubricatorlaw08_records.l0
      repeat' first
      | (with_reducible exact ih0 _ _ _ _)
      | (with_reducible exact ih1 _ _ _ _ _ _)
      | (with_reducible exact LeO.refl _)
      | (with_reducible exact LeO.none _)
      | (with_reducible refine LeO.ite ?_ ?_)
      | (with_reducible refine LeO.bind ?_ (fun _ => ?_))
      | exact ih0 _ _ _ _
      | exact ih1 _ _ _ _ _ _
      | exact LeO.none _
      | refine LeO.ite ?_ ?_
      | refine LeO.bind ?_ (fun _ => ?_)
    · intro y0 y1 y2 y3 y4 y5
      unfold rubricatorlaw08_records.l1
      repeat' first
      | (with_reducible exact ih0 _ _ _ _)
      | (with_reducible exact ih1 _ _ _ _ _ _)
      | (with_reducible exact LeO.refl _)
      | (with_reducible exact LeO.none _)
      | (with_reducible refine LeO.ite ?_ ?_)
      | (with_reducible refine LeO.bind ?_ (fun _ => ?_))
      | exact ih0 _ _ _ _
      | exact ih1 _ _ _ _ _ _
      | exact LeO.none _
      | refine LeO.ite ?_ ?_
      | refine LeO.bind ?_ (fun _ => ?_)
theorem rubricatorlaw08_records.mono : ∀ a0 k, LeO (rubricatorlaw08_records.f k a0) (rubricatorlaw08_records.f (k + 1) a0) := by
  intro a0 k
  obtain ⟨ih0, ih1⟩ := rubricatorlaw08_records.mono_l k
  unfold rubricatorlaw08_records.f
  repeat' first
      | (with_reducible exact ih0 _ _ _ _)
      | (with_reducible exact ih1 _ _ _ _ _ _)
      | (with_reducible exact LeO.refl _)
      | (with_reducible exact LeO.none _)
      | (with_reducible refine LeO.ite ?_ ?_)
      | (with_reducible refine LeO.bind ?_ (fun _ => ?_))
      | exact ih0 _ _ _ _
      | exact ih1 _ _ _ _ _ _
      | exact LeO.none _
      | refine LeO.ite ?_ ?_
      | refine LeO.bind ?_ (fun _ => ?_)
def rubricatorlaw08_records.T12 : Bool × List (List Nat × List Nat) := (true, [([], []), ([], []), ([], []), ([1, 2], [1, 2]), ([3], [3]), ([4], [4]), ([], []), ([], []), ([6, 7], [6, 7]), ([8], [8]), ([9], [9]), ([5, 10], [5, 10]), ([11], [11]), ([0, 12], [0, 12]), ([13, 13, 0, 1, 2, 3, 4, 5, 6, 7, 8, 9, 10, 11, 12, 13], [0, 13])])
def rubricatorlaw08_records.B12 : List Nat := [0, 0, 0, 6, 14, 30, 0, 0, 192, 448, 960, 2046, 4094, 8191, 16383]
theorem rubricatorlaw08_records.tab12 : rtab .any (opsOf Try.f39 12) = rubricatorlaw08_records.T12 := by kernel_rfl
theorem rubricatorlaw08_records.bits12 : waitsOk rubricatorlaw08_records.T12.2 rubricatorlaw08_records.B12 = true := by kernel_rfl
set_option maxHeartbeats 8000000 in
set_option maxRecDepth 100000 in
theorem rubricatorlaw08_records.calls (k : Nat) (P0_ : Nat → Prop) (A0 : Option Addr) (c0 : Nat) (l0 : List (S84)) (r1 : List (S101)) (r2 : List (S139)) (w : World) (hs0 : Kd.V k84 84 w w.heap.size (fun k_ => P0_ k_) (.slice A0 l0.length c0) l0) (h : rubricatorlaw08_records.f k l0 = some (r1, r2)) :
    Calls Try.prog 39 #[.slice A0 l0.length c0] w fun e w' => ∃ v0_ v1_ : Value, e = .returned (.tuple #[v0_, v1_]) ∧ Kd.N k101 101 w' w.heap.size (fun k_ => (P0_ k_ ∨ w.heap.size ≤ k_) ∧ some k_ ≠ (v1_ : Value).ownBlock) v0_ r1 ∧ Kd.N k139 139 w' w.heap.size (fun k_ => (P0_ k_ ∨ w.heap.size ≤ k_) ∧ some k_ ≠ (v0_ : Value).ownBlock) v1_ r2 ∧ Below w.heap.size w w' := by
  have hu101 := Try.underlying101
  have hu139 := Try.underlying139
  have HO0 := Aside0.mk (show Kd.V k84 84 w w.heap.size (fun k_ => (P0_ k_ ∨ w.heap.size ≤ k_)) (.slice A0 l0.length c0) l0 from Kd.V_mono hs0 (fun k_ hk => .inl hk))
  have HB := Aside0.mk (Below.refl w.heap.size w)
  have H : (rubricatorlaw08_records.l0 k l0 ([] : List (S101)) ([] : List (S139)) 0) = some (r1, r2) := h
  clear h
  have H' := Aside0.mk H
  clear H
  go_enter Try.func39, Try.ntmps39
  go_wp2
  go_loopg [4, 5, 6] k (fun kq v4 v5 v6 w' => ∃ (x4_1 : List (S101)) (x5_1 : List (S139)) (x6_1 : Int), v6 = .int .i64 x6_1 ∧ Aside0 (rubricatorlaw08_records.l0 kq l0 x4_1 x5_1 x6_1 = some (r1, r2)) ∧ Aside0 (kq ≤ k) ∧ Aside0 (Kd.V k84 84 w' w.heap.size (fun k_ => (P0_ k_ ∨ w.heap.size ≤ k_) ∧ some k_ ≠ (v4 : Value).ownBlock ∧ some k_ ≠ (v5 : Value).ownBlock) (.slice A0 l0.length c0) l0) ∧ Aside0 (Kd.N k101 101 w' w.heap.size (fun k_ => (P0_ k_ ∨ w.heap.size ≤ k_) ∧ some k_ ≠ (v5 : Value).ownBlock) v4 x4_1) ∧ Aside0 (Kd.N k139 139 w' w.heap.size (fun k_ => (P0_ k_ ∨ w.heap.size ≤ k_) ∧ some k_ ≠ (v4 : Value).ownBlock) v5 x5_1) ∧ Aside0 (Below w.heap.size w w'))
  case atStart => exact ⟨(([] : List (S101))), (([] : List (S139))), (0), (by first | rfl | (simp; done) | (simp [*]; done)), H', ⟨Nat.le_refl _⟩, ⟨by (with_reducible repeat (first | apply Kd.V_alloc | apply Kd.V_drewN | apply Kd.V_drew)); exact Kd.V_mono HO0.out (fun _ hk => ⟨hk, ⟨(by simp [Value.ownBlock]), (by simp [Value.ownBlock])⟩⟩)⟩, ⟨by first | exact Kd.S_nil _ _ _ _ _ | exact Kd.N_nil _ _ _ _ _ | exact Kd.V_nil _ _ _ _ _ | exact Kd.Q_nil _ _ _ _ _ | exact Kd.R_nil _ _ _ _ _⟩, ⟨by first | exact Kd.S_nil _ _ _ _ _ | exact Kd.N_nil _ _ _ _ _ | exact Kd.V_nil _ _ _ _ _ | exact Kd.Q_nil _ _ _ _ _ | exact Kd.R_nil _ _ _ _ _⟩, ⟨by repeat (first | (with_reducible first | exact HB.out | apply below_alloc | apply pw_below_drewN | apply below_drew1) | exact HB.out)⟩⟩
  case round =>
    clear H'
    obtain ⟨x4_1, x5_1, x6_1, rfl, HA, HK1, HO_0, HO_4, HO_5, HB⟩ := hrel
    cases gk with
    | zero => exact absurd HA.out (by simp [rubricatorlaw08_records.l0])
    | succ k1 =>
      have H := HA.out
      clear HA
      simp only [rubricatorlaw08_records.l0] at H
      by_cases c2 : x6_1 < (l0.length : Int)
      · rw [if_pos c2] at H
        have c2b0 : decide (x6_1 < (l0.length : Int)) = true := decide_eq_true c2
        clear c2
        have H' := Aside0.mk H
        clear H
        go_wp2
        go_loopg [7, 8] k1 (fun kq v7 v8 w' => ∃ (x7_2 : List Int) (x8_2 : Int), v8 = .int .i64 x8_2 ∧ Aside0 (rubricatorlaw08_records.l1 kq l0 x4_1 x5_1 x6_1 x7_2 x8_2 = some (r1, r2)) ∧ Aside0 (kq ≤ k1) ∧ Aside0 (Kd.V k84 84 w' w.heap.size (fun k_ => (P0_ k_ ∨ w.heap.size ≤ k_) ∧ some k_ ≠ (u4 : Value).ownBlock ∧ some k_ ≠ (u5 : Value).ownBlock ∧ some k_ ≠ (v7 : Value).ownBlock) (.slice A0 l0.length c0) l0) ∧ Aside0 (Kd.N k101 101 w' w.heap.size (fun k_ => (P0_ k_ ∨ w.heap.size ≤ k_) ∧ some k_ ≠ (u5 : Value).ownBlock ∧ some k_ ≠ (v7 : Value).ownBlock) u4 x4_1) ∧ Aside0 (Kd.N k139 139 w' w.heap.size (fun k_ => (P0_ k_ ∨ w.heap.size ≤ k_) ∧ some k_ ≠ (u4 : Value).ownBlock ∧ some k_ ≠ (v7 : Value).ownBlock) u5 x5_1) ∧ Aside0 (Kd.R (Kd.int .u32) 73 w' w.heap.size (fun k_ => (w.heap.size ≤ k_)) v7 x7_2) ∧ Aside0 (Below w.heap.size w w'))
        case atStart => exact ⟨(([] : List Int)), (0), (by first | rfl | (simp; done) | (simp [*]; done)), H', ⟨Nat.le_refl _⟩, ⟨by (with_reducible repeat (first | apply Kd.V_alloc | apply Kd.V_drewN | apply Kd.V_drew)); exact Kd.V_mono HO_0.out (fun _ hk => ⟨hk.1, ⟨hk.2.1, ⟨hk.2.2, (by simp [Value.ownBlock])⟩⟩⟩)⟩, ⟨by (with_reducible repeat (first | apply Kd.N_alloc | apply Kd.N_drewN | apply Kd.N_drew)); exact Kd.N_mono HO_4.out (fun _ hk => ⟨hk.1, ⟨hk.2, (by simp [Value.ownBlock])⟩⟩)⟩, ⟨by (with_reducible repeat (first | apply Kd.N_alloc | apply Kd.N_drewN | apply Kd.N_drew)); exact Kd.N_mono HO_5.out (fun _ hk => ⟨hk.1, ⟨hk.2, (by simp [Value.ownBlock])⟩⟩)⟩, ⟨by first | exact Kd.R_nil _ _ _ _ _ | exact Kd.N_nil _ _ _ _ _ | exact Kd.V_nil _ _ _ _ _ | exact Kd.Q_nil _ _ _ _ _ | exact Kd.S_nil _ _ _ _ _⟩, ⟨by repeat (first | (with_reducible first | exact HB.out | apply below_alloc | apply pw_below_drewN | apply below_drew1) | exact HB.out)⟩⟩
        case round =>
          clear H'
          try clear c2
          try clear c2b0
          try clear p2
          obtain ⟨x7_2, x8_2, rfl, HA, HK2, HO_0, HO_4, HO_5, HO_7, HB⟩ := hrel
          cases gk with
          | zero => exact absurd HA.out (by simp [rubricatorlaw08_records.l1])
          | succ k2 =>
            have H := HA.out
            clear HA
            simp only [rubricatorlaw08_records.l1] at H
            by_cases c3 : 0 ≤ x6_1
            · rw [if_pos c3] at H
              have c3b0 : decide (0 ≤ x6_1) = true := decide_eq_true c3
              clear c3
              by_cases c4 : x6_1 < (l0.length : Int)
              · rw [if_pos c4] at H
                have c4b0 : decide (x6_1 < (l0.length : Int)) = true := decide_eq_true c4
                clear c4
                by_cases c5 : x8_2 < (((rd_T84 l0 x6_1).f1).length : Int)
                · rw [if_pos c5] at H
                  have c5b0 : decide (x8_2 < (((rd_T84 l0 x6_1).f1).length : Int)) = true := decide_eq_true c5
                  clear c5
                  by_cases c6 : 0 ≤ x8_2
                  · rw [if_pos c6] at H
                    have c6b0 : decide (0 ≤ x8_2) = true := decide_eq_true c6
                    clear c6
                    by_cases c7 : x7_2.length < 35184372088832
                    · rw [if_pos c7] at H
                      have LMc7 := Aside0.mk c7
                      clear c7
                      obtain ⟨y234, hy234⟩ : ∃ y_ : List Int, y_ = (x7_2 ++ [rd ((rd_T84 l0 x6_1).f1) x8_2]) := ⟨_, rfl⟩
                      replace H : (rubricatorlaw08_records.l1 k2 l0 x4_1 x5_1 x6_1 y234 (wrap64 (x8_2 + 1))) = some (r1, r2) := by first | (rw [hy234]; with_reducible exact H) | (have H2_ := (Option.bind_some _ _).symm.trans H; rw [hy234]; with_reducible exact H2_) | (have H2_ := (Option.bind_some _ _).symm.trans H; with_reducible exact H2_) | with_reducible exact H | (rw [hy234]; exact H) | exact H
                      have Ny234 := Aside0.mk hy234
                      clear hy234
                      have H' := Aside0.mk H
                      clear H
                      have p231 : 0 ≤ (x6_1 : Int) := of_decide_eq_true (by first | (with_reducible assumption) | assumption)
                      have q231 : x6_1 < (l0.length : Int) := of_decide_eq_true (by first | (with_reducible assumption) | assumption)
                      obtain ⟨ad231, A231_1, c231_1, e231, hx231_0, hx231_1, hl231_1, hi231_1⟩ := at_T84 (Kd.V_reads' HO_0.out).2.2 x6_1 p231 q231
                      cases e231
                      obtain ⟨ce231, hce231, hMe231, hcc231⟩ := Kd.V_get HO_0.out z84 x6_1 p231 (by first | exact q231 | exact of_decide_eq_true (by first | (with_reducible assumption) | assumption) | (have e_ := (Kd.V_reads' HO_0.out).1; omega))
                      obtain ⟨ua231_1, uc231_1, rfl, ul231_1, ge231_1⟩ := k84_openF hMe231
                      have hv231_1 := hcc231 1 _ rfl
                      rw [add_field _ _ 1 (by omega)] at hv231_1
                      replace hv231_1 := Option.some.inj (hv231_1.symm.trans hx231_1)
                      injection hv231_1 with hva_ hvn_ hvc_
                      rw [hva_] at ge231_1
                      rw [hvc_] at ul231_1
                      have HL231_1 := Aside0.mk (show Kd.V (Kd.int .u32) 61 _ w.heap.size _ _ ((rd_T84 l0 x6_1).f1) from Kd.V_mk ul231_1 ge231_1)
                      clear hva_ hvn_ hvc_ ge231_1 ul231_1
                      clear hcc231 hce231
                      have HR231_1 := Aside0.mk hi231_1
                      have HC231_1 := Aside0.mk hl231_1
                      clear hi231_1 hl231_1
                      replace p231 := eq_true p231
                      replace q231 := eq_true q231
                      have p232 : 0 ≤ (x6_1 : Int) := of_decide_eq_true (by first | (with_reducible assumption) | assumption)
                      have q232 : x6_1 < (l0.length : Int) := of_decide_eq_true (by first | (with_reducible assumption) | assumption)
                      obtain ⟨ad232, A232_1, c232_1, e232, hx232_0, hx232_1, hl232_1, hi232_1⟩ := at_T84 (Kd.V_reads' HO_0.out).2.2 x6_1 p232 q232
                      obtain rfl : ad231 = ad232 := (by injection e232)
                      obtain ⟨ce232, hce232, hMe232, hcc232⟩ := Kd.V_get HO_0.out z84 x6_1 p232 (by first | exact q232 | exact of_decide_eq_true (by first | (with_reducible assumption) | assumption) | (have e_ := (Kd.V_reads' HO_0.out).1; omega))
                      obtain ⟨ua232_1, uc232_1, rfl, ul232_1, ge232_1⟩ := k84_openF hMe232
                      have hv232_1 := hcc232 1 _ rfl
                      rw [add_field _ _ 1 (by omega)] at hv232_1
                      replace hv232_1 := Option.some.inj (hv232_1.symm.trans hx232_1)
                      injection hv232_1 with hva_ hvn_ hvc_
                      rw [hva_] at ge232_1
                      rw [hvc_] at ul232_1
                      have HL232_1 := Aside0.mk (show Kd.V (Kd.int .u32) 61 _ w.heap.size _ _ ((rd_T84 l0 x6_1).f1) from Kd.V_mk ul232_1 ge232_1)
                      clear hva_ hvn_ hvc_ ge232_1 ul232_1
                      clear hcc232 hce232
                      have HR232_1 := Aside0.mk hi232_1
                      have HC232_1 := Aside0.mk hl232_1
                      clear hi232_1 hl232_1
                      replace p232 := eq_true p232
                      replace q232 := eq_true q232
                      have ea_ := Option.some.inj (hx231_1.symm.trans hx232_1)
                      injection ea_ with ea_ en_ ec_
                      subst ea_
                      subst ec_
                      clear en_
                      have p233 : 0 ≤ (x8_2 : Int) := of_decide_eq_true (by first | (with_reducible assumption) | assumption)
                      have q233 : x8_2 < (((rd_T84 l0 x6_1).f1).length : Int) := of_decide_eq_true (by first | (with_reducible assumption) | assumption)
                      obtain ⟨ad233, e233, hx233_0⟩ := Kd.at_int (by repeat (first | (with_reducible exact HR232_1.out) | (with_reducible refine Kd.C_alloc ?_ _) | (with_reducible refine Kd.C_drewN ?_ _) | (with_reducible refine Kd.C_drew ?_) | exact HR232_1.out)) x8_2 p233 q233
                      cases e233
                      replace p233 := eq_true p233
                      replace q233 := eq_true q233
                      go_wp2_with (first | ((with_reducible refine gate_builtin (b := .append) (xs := #[.tmp 25, .tmp 34]) rfl ?_); at_builtin; refine Kd.R_append (Kd.int .u32) (w0 := w) w.heap.size rfl (.tmp 25) (.tmp 34) 99 73 (.int .u32 0) 4 rfl Try.underlying99 info73 rfl (by decide) (by omega) u7 x7_2 (rd ((rd_T84 l0 x6_1).f1) x8_2) [.int .u32 (rd ((rd_T84 l0 x6_1).f1) x8_2)] (fun k_ => (w.heap.size ≤ k_)) (fun _ => False) rfl rfl ?aP (fun _ hk => hk.elim) ?aF ?aO ?aB ?aS ?aL ?_; (case aP => exact rfl); (case aB => exact (by repeat (first | (with_reducible first | exact HB.out | apply below_alloc | apply pw_below_drewN | apply below_drew1) | exact HB.out))); (case aF => exact (fun k_ hk => (Nat.le_trans (below_size (by repeat (first | (with_reducible first | exact HB.out | apply below_alloc | apply pw_below_drewN | apply below_drew1) | exact HB.out))) hk))); (case aO => exact (by (with_reducible repeat (first | apply Kd.R_alloc | apply Kd.R_drewN | apply Kd.R_drew)); exact HO_7.out)); (case aS => exact (below_size (by repeat (first | (with_reducible first | exact HB.out | apply below_alloc | apply pw_below_drewN | apply below_drew1) | exact HB.out)))); (case aL => have := LMc7.out; omega); intro v235 w8 ho hb hg hat; rw [← Ny234.out] at ho; have n0_ := Aside0.mk (Kd.V_afterv (ok := (fun k_ => (P0_ k_ ∨ w.heap.size ≤ k_) ∧ some k_ ≠ (u4 : Value).ownBlock ∧ some k_ ≠ (u5 : Value).ownBlock)) (by (with_reducible repeat (first | apply Kd.V_alloc | apply Kd.V_drewN | apply Kd.V_drew)); exact Kd.V_mono HO_0.out (fun _ hk => ⟨⟨hk.1, ⟨hk.2.1, hk.2.2.1⟩⟩, hk.2.2.2⟩)) hg hat); have n1_ := Aside0.mk (Kd.N_afterv (ok := (fun k_ => (P0_ k_ ∨ w.heap.size ≤ k_) ∧ some k_ ≠ (u5 : Value).ownBlock)) (by (with_reducible repeat (first | apply Kd.N_alloc | apply Kd.N_drewN | apply Kd.N_drew)); exact Kd.N_mono HO_4.out (fun _ hk => ⟨⟨hk.1, hk.2.1⟩, hk.2.2⟩)) hg hat); have n2_ := Aside0.mk (Kd.N_afterv (ok := (fun k_ => (P0_ k_ ∨ w.heap.size ≤ k_) ∧ some k_ ≠ (u4 : Value).ownBlock)) (by (with_reducible repeat (first | apply Kd.N_alloc | apply Kd.N_drewN | apply Kd.N_drew)); exact Kd.N_mono HO_5.out (fun _ hk => ⟨⟨hk.1, hk.2.1⟩, hk.2.2⟩)) hg hat); have n3_ := Aside0.mk (Kd.V_afterv (ok := (fun k_ => (P0_ k_ ∨ w.heap.size ≤ k_) ∧ some k_ ≠ (u4 : Value).ownBlock ∧ some k_ ≠ (u5 : Value).ownBlock)) (by (with_reducible repeat (first | apply Kd.V_alloc | apply Kd.V_drewN | apply Kd.V_drew)); exact Kd.V_mono HL231_1.out (fun _ hk => ⟨⟨hk.1, ⟨hk.2.1, hk.2.2.1⟩⟩, hk.2.2.2⟩)) hg hat); have n4_ := Aside0.mk (Kd.V_afterv (ok := (fun k_ => (P0_ k_ ∨ w.heap.size ≤ k_) ∧ some k_ ≠ (u4 : Value).ownBlock ∧ some k_ ≠ (u5 : Value).ownBlock)) (by (with_reducible repeat (first | apply Kd.V_alloc | apply Kd.V_drewN | apply Kd.V_drew)); exact Kd.V_mono HL232_1.out (fun _ hk => ⟨⟨hk.1, ⟨hk.2.1, hk.2.2.1⟩⟩, hk.2.2.2⟩)) hg hat); have n5_ := Aside0.mk (hb); have n6_ := Aside0.mk (ho); clear HO_0; clear HO_4; clear HO_5; clear HL231_1; clear HL232_1; clear HB; clear HO_7; have HO_0 := n0_; have HO_4 := n1_; have HO_5 := n2_; have HL231_1 := n3_; have HL232_1 := n4_; have HB := n5_; have HO236 := n6_; clear n0_ n1_ n2_ n3_ n4_ n5_ n6_; clear ho hb hg hat))
                      go_roundg k2
                      case measure => have := HK1.out; have := HK2.out; omega
                      case rel => exact ⟨(y234), (wrap64 (x8_2 + 1)), (by first | rfl | (simp; done) | (simp [*]; done)), H', ⟨by have := HK1.out; have := HK2.out; omega⟩, ⟨by (with_reducible repeat (first | apply Kd.V_alloc | apply Kd.V_drewN | apply Kd.V_drew)); exact Kd.V_mono HO_0.out (fun _ hk => ⟨hk.1.1, ⟨hk.1.2.1, ⟨hk.1.2.2, hk.2⟩⟩⟩)⟩, ⟨by (with_reducible repeat (first | apply Kd.N_alloc | apply Kd.N_drewN | apply Kd.N_drew)); exact Kd.N_mono HO_4.out (fun _ hk => ⟨hk.1.1, ⟨hk.1.2, hk.2⟩⟩)⟩, ⟨by (with_reducible repeat (first | apply Kd.N_alloc | apply Kd.N_drewN | apply Kd.N_drew)); exact Kd.N_mono HO_5.out (fun _ hk => ⟨hk.1.1, ⟨hk.1.2, hk.2⟩⟩)⟩, ⟨by (with_reducible repeat (first | apply Kd.R_alloc | apply Kd.R_drewN | apply Kd.R_drew)); exact HO236.out⟩, ⟨by repeat (first | (with_reducible first | exact HB.out | apply below_alloc | apply pw_below_drewN | apply below_drew1) | exact HB.out)⟩⟩
                    · rw [if_neg c7] at H
                      exact absurd H (by simp)
                  · rw [if_neg c6] at H
                    exact absurd H (by simp)
                · rw [if_neg c5] at H
                  have c5b0 : decide (x8_2 < (((rd_T84 l0 x6_1).f1).length : Int)) = false := decide_eq_false c5
                  clear c5
                  by_cases c9 : x4_1.length < 4398046511104
                  · rw [if_pos c9] at H
                    have LMc9 := Aside0.mk c9
                    clear c9
                    obtain ⟨y238, hy238⟩ : ∃ y_ : List (S101), y_ = (x4_1 ++ [(⟨(rd_T84 l0 x6_1).f0, x7_2⟩ : S101)]) := ⟨_, rfl⟩
                    replace H : (if x5_1.length < 4398046511104 then (rubricatorlaw08_records.l0 k2 l0 y238 (x5_1 ++ [(⟨(rd_T84 l0 x6_1).f0, (rd_T84 l0 x6_1).f1⟩ : S139)]) (wrap64 (x6_1 + 1))) else (none)) = some (r1, r2) := by first | (rw [hy238]; with_reducible exact H) | (have H2_ := (Option.bind_some _ _).symm.trans H; rw [hy238]; with_reducible exact H2_) | (have H2_ := (Option.bind_some _ _).symm.trans H; with_reducible exact H2_) | with_reducible exact H | (rw [hy238]; exact H) | exact H
                    have Ny238 := Aside0.mk hy238
                    clear hy238
                    by_cases c10 : x5_1.length < 4398046511104
                    · rw [if_pos c10] at H
                      have LMc10 := Aside0.mk c10
                      clear c10
                      obtain ⟨y243, hy243⟩ : ∃ y_ : List (S139), y_ = (x5_1 ++ [(⟨(rd_T84 l0 x6_1).f0, (rd_T84 l0 x6_1).f1⟩ : S139)]) := ⟨_, rfl⟩
                      replace H : (rubricatorlaw08_records.l0 k2 l0 y238 y243 (wrap64 (x6_1 + 1))) = some (r1, r2) := by first | (rw [hy243]; with_reducible exact H) | (have H2_ := (Option.bind_some _ _).symm.trans H; rw [hy243]; with_reducible exact H2_) | (have H2_ := (Option.bind_some _ _).symm.trans H; with_reducible exact H2_) | with_reducible exact H | (rw [hy243]; exact H) | exact H
                      have Ny243 := Aside0.mk hy243
                      clear hy243
                      have H' := Aside0.mk H
                      clear H
                      have p231 : 0 ≤ (x6_1 : Int) := of_decide_eq_true (by first | (with_reducible assumption) | assumption)
                      have q231 : x6_1 < (l0.length : Int) := of_decide_eq_true (by first | (with_reducible assumption) | assumption)
                      obtain ⟨ad231, A231_1, c231_1, e231, hx231_0, hx231_1, hl231_1, hi231_1⟩ := at_T84 (Kd.V_reads' HO_0.out).2.2 x6_1 p231 q231
                      cases e231
                      obtain ⟨ce231, hce231, hMe231, hcc231⟩ := Kd.V_get HO_0.out z84 x6_1 p231 (by first | exact q231 | exact of_decide_eq_true (by first | (with_reducible assumption) | assumption) | (have e_ := (Kd.V_reads' HO_0.out).1; omega))
                      obtain ⟨ua231_1, uc231_1, rfl, ul231_1, ge231_1⟩ := k84_openF hMe231
                      have hv231_1 := hcc231 1 _ rfl
                      rw [add_field _ _ 1 (by omega)] at hv231_1
                      replace hv231_1 := Option.some.inj (hv231_1.symm.trans hx231_1)
                      injection hv231_1 with hva_ hvn_ hvc_
                      rw [hva_] at ge231_1
                      rw [hvc_] at ul231_1
                      have HL231_1 := Aside0.mk (show Kd.V (Kd.int .u32) 61 _ w.heap.size _ _ ((rd_T84 l0 x6_1).f1) from Kd.V_mk ul231_1 ge231_1)
                      clear hva_ hvn_ hvc_ ge231_1 ul231_1
                      clear hcc231 hce231
                      have HR231_1 := Aside0.mk hi231_1
                      have HC231_1 := Aside0.mk hl231_1
                      clear hi231_1 hl231_1
                      replace p231 := eq_true p231
                      replace q231 := eq_true q231
                      have p237 : 0 ≤ (x6_1 : Int) := of_decide_eq_true (by first | (with_reducible assumption) | assumption)
                      have q237 : x6_1 < (l0.length : Int) := of_decide_eq_true (by first | (with_reducible assumption) | assumption)
                      obtain ⟨ad237, A237_1, c237_1, e237, hx237_0, hx237_1, hl237_1, hi237_1⟩ := at_T84 (Kd.V_reads' HO_0.out).2.2 x6_1 p237 q237
                      obtain rfl : ad231 = ad237 := (by injection e237)
                      obtain ⟨ce237, hce237, hMe237, hcc237⟩ := Kd.V_get HO_0.out z84 x6_1 p237 (by first | exact q237 | exact of_decide_eq_true (by first | (with_reducible assumption) | assumption) | (have e_ := (Kd.V_reads' HO_0.out).1; omega))
                      obtain ⟨ua237_1, uc237_1, rfl, ul237_1, ge237_1⟩ := k84_openF hMe237
                      have hv237_1 := hcc237 1 _ rfl
                      rw [add_field _ _ 1 (by omega)] at hv237_1
                      replace hv237_1 := Option.some.inj (hv237_1.symm.trans hx237_1)
                      injection hv237_1 with hva_ hvn_ hvc_
                      rw [hva_] at ge237_1
                      rw [hvc_] at ul237_1
                      have HL237_1 := Aside0.mk (show Kd.V (Kd.int .u32) 61 _ w.heap.size _ _ ((rd_T84 l0 x6_1).f1) from Kd.V_mk ul237_1 ge237_1)
                      clear hva_ hvn_ hvc_ ge237_1 ul237_1
                      clear hcc237 hce237
                      have HR237_1 := Aside0.mk hi237_1
                      have HC237_1 := Aside0.mk hl237_1
                      clear hi237_1 hl237_1
                      replace p237 := eq_true p237
                      replace q237 := eq_true q237
                      have ea_ := Option.some.inj (hx231_1.symm.trans hx237_1)
                      injection ea_ with ea_ en_ ec_
                      subst ea_
                      subst ec_
                      clear en_
                      obtain ⟨Ao11, co11, eo11⟩ := Kd.R_slice HO_7.out
                      subst eo11
                      try go_wp2_with (first | ((with_reducible refine gate_builtin (b := .append) (xs := #[.tmp 36, .tmp 44]) rfl ?_); at_builtin; refine Kd.N_append k101 (w0 := w) w.heap.size rfl (.tmp 36) (.tmp 44) 66 101 (.agg #[(.int .u64 0), (.slice none 0 0)]) 32 rfl Try.underlying66 info101 rfl (by decide) (by omega) u4 x4_1 (⟨(rd_T84 l0 x6_1).f0, x7_2⟩ : S101) [.int .u64 ((rd_T84 l0 x6_1).f0), .slice Ao11 x7_2.length co11] (fun k_ => (P0_ k_ ∨ w.heap.size ≤ k_) ∧ some k_ ≠ (u5 : Value).ownBlock) (fun k_ => ((fun k_ => (P0_ k_ ∨ w.heap.size ≤ k_) ∧ some k_ ≠ (u5 : Value).ownBlock)) k_ ∧ some k_ ≠ (u4 : Value).ownBlock) rfl rfl ?aP (fun _ hk => hk) ?aF ?aO ?aB ?aS ?aL ?_; (case aP => exact (k101_mkF _ _ (⟨(rd_T84 l0 x6_1).f0, x7_2⟩ : S101) (Kd.R_reads' (Kd.R_mono (ok' := (fun k_ => ((fun k_ => (P0_ k_ ∨ w.heap.size ≤ k_) ∧ some k_ ≠ (u5 : Value).ownBlock)) k_ ∧ some k_ ≠ (u4 : Value).ownBlock)) (Kd.R_apart' (Kd.R_apart' (HO_7.out) (Kd.N_typed HO_5.out) (by decide)) (Kd.N_typed HO_4.out) (by decide)) (fun k_ hk => ⟨⟨(.inr (hk.1.1)), hk.1.2⟩, hk.2⟩))).2.1 (Kd.R_F (Kd.R_mono (ok' := (fun k_ => ((fun k_ => (P0_ k_ ∨ w.heap.size ≤ k_) ∧ some k_ ≠ (u5 : Value).ownBlock)) k_ ∧ some k_ ≠ (u4 : Value).ownBlock)) (Kd.R_apart' (Kd.R_apart' (HO_7.out) (Kd.N_typed HO_5.out) (by decide)) (Kd.N_typed HO_4.out) (by decide)) (fun k_ hk => ⟨⟨(.inr (hk.1.1)), hk.1.2⟩, hk.2⟩))))); (case aB => exact (by repeat (first | (with_reducible first | exact HB.out | apply below_alloc | apply pw_below_drewN | apply below_drew1) | exact HB.out))); (case aF => exact (fun k_ hk => ⟨(.inr (Nat.le_trans (below_size (by repeat (first | (with_reducible first | exact HB.out | apply below_alloc | apply pw_below_drewN | apply below_drew1) | exact HB.out))) hk)), Kd.fresh' (Kd.N_lt (by (with_reducible repeat (first | apply Kd.N_alloc | apply Kd.N_drewN | apply Kd.N_drew)); exact HO_5.out)) k_ hk⟩)); (case aO => exact (by (with_reducible repeat (first | apply Kd.N_alloc | apply Kd.N_drewN | apply Kd.N_drew)); exact Kd.N_mono HO_4.out (fun _ hk => ⟨hk.1, hk.2.1⟩))); (case aS => exact (below_size (by repeat (first | (with_reducible first | exact HB.out | apply below_alloc | apply pw_below_drewN | apply below_drew1) | exact HB.out)))); (case aL => have := LMc9.out; omega); intro v239 w12 ho hb hg hat; rw [← Ny238.out] at ho; have n0_ := Aside0.mk (Kd.V_afterv (ok := (fun k_ => (P0_ k_ ∨ w.heap.size ≤ k_) ∧ some k_ ≠ (u5 : Value).ownBlock ∧ some k_ ≠ (.slice Ao11 x7_2.length co11 : Value).ownBlock)) (by (with_reducible repeat (first | apply Kd.V_alloc | apply Kd.V_drewN | apply Kd.V_drew)); exact Kd.V_mono HO_0.out (fun _ hk => ⟨⟨hk.1, ⟨hk.2.2.1, hk.2.2.2⟩⟩, hk.2.1⟩)) hg hat); have n1_ := Aside0.mk (Kd.N_afterv (ok := (fun k_ => (P0_ k_ ∨ w.heap.size ≤ k_) ∧ some k_ ≠ (.slice Ao11 x7_2.length co11 : Value).ownBlock)) (by (with_reducible repeat (first | apply Kd.N_alloc | apply Kd.N_drewN | apply Kd.N_drew)); exact Kd.N_mono HO_5.out (fun _ hk => ⟨⟨hk.1, hk.2.2⟩, hk.2.1⟩)) hg hat); have n2_ := Aside0.mk (Kd.V_afterv (ok := (fun k_ => (P0_ k_ ∨ w.heap.size ≤ k_) ∧ some k_ ≠ (u5 : Value).ownBlock ∧ some k_ ≠ (.slice Ao11 x7_2.length co11 : Value).ownBlock)) (by (with_reducible repeat (first | apply Kd.V_alloc | apply Kd.V_drewN | apply Kd.V_drew)); exact Kd.V_mono HL231_1.out (fun _ hk => ⟨⟨hk.1, ⟨hk.2.2.1, hk.2.2.2⟩⟩, hk.2.1⟩)) hg hat); have n3_ := Aside0.mk (Kd.V_afterv (ok := (fun k_ => (P0_ k_ ∨ w.heap.size ≤ k_) ∧ some k_ ≠ (u5 : Value).ownBlock ∧ some k_ ≠ (.slice Ao11 x7_2.length co11 : Value).ownBlock)) (by (with_reducible repeat (first | apply Kd.V_alloc | apply Kd.V_drewN | apply Kd.V_drew)); exact Kd.V_mono HL237_1.out (fun _ hk => ⟨⟨hk.1, ⟨hk.2.2.1, hk.2.2.2⟩⟩, hk.2.1⟩)) hg hat); have n4_ := Aside0.mk (hb); have n5_ := Aside0.mk (ho); clear HO_0; clear HO_5; clear HL231_1; clear HL237_1; clear HB; clear HO_4; clear HO_7; have HO_0 := n0_; have HO_5 := n1_; have HL231_1 := n2_; have HL237_1 := n3_; have HB := n4_; have HO240 := n5_; clear n0_ n1_ n2_ n3_ n4_ n5_; clear ho hb hg hat))
                      have n0_ := Aside0.mk (Kd.V_drew HO_0.out)
                      have n1_ := Aside0.mk (Kd.N_drew HO_5.out)
                      have n2_ := Aside0.mk (Kd.V_drew HL231_1.out)
                      have n3_ := Aside0.mk (Kd.V_drew HL237_1.out)
                      have n4_ := Aside0.mk (Kd.N_drew HO240.out)
                      have n5_ := Aside0.mk (below_drew1 HB.out)
                      clear HO_0
                      clear HO_5
                      clear HL231_1
                      clear HL237_1
                      clear HO240
                      clear HB
                      have HO_0 := n0_
                      have HO_5 := n1_
                      have HL231_1 := n2_
                      have HL237_1 := n3_
                      have HO240 := n4_
                      have HB := n5_
                      clear n0_ n1_ n2_ n3_ n4_ n5_
                      have p241 : 0 ≤ (x6_1 : Int) := of_decide_eq_true (by first | (with_reducible assumption) | assumption)
                      have q241 : x6_1 < (l0.length : Int) := of_decide_eq_true (by first | (with_reducible assumption) | assumption)
                      obtain ⟨ad241, A241_1, c241_1, e241, hx241_0, hx241_1, hl241_1, hi241_1⟩ := at_T84 (Kd.V_reads' HO_0.out).2.2 x6_1 p241 q241
                      obtain rfl : ad231 = ad241 := (by injection e241)
                      obtain ⟨ce241, hce241, hMe241, hcc241⟩ := Kd.V_get HO_0.out z84 x6_1 p241 (by first | exact q241 | exact of_decide_eq_true (by first | (with_reducible assumption) | assumption) | (have e_ := (Kd.V_reads' HO_0.out).1; omega))
                      obtain ⟨ua241_1, uc241_1, rfl, ul241_1, ge241_1⟩ := k84_openF hMe241
                      have hv241_1 := hcc241 1 _ rfl
                      rw [add_field _ _ 1 (by omega)] at hv241_1
                      replace hv241_1 := Option.some.inj (hv241_1.symm.trans hx241_1)
                      injection hv241_1 with hva_ hvn_ hvc_
                      rw [hva_] at ge241_1
                      rw [hvc_] at ul241_1
                      have HL241_1 := Aside0.mk (show Kd.V (Kd.int .u32) 61 _ w.heap.size _ _ ((rd_T84 l0 x6_1).f1) from Kd.V_mk ul241_1 ge241_1)
                      clear hva_ hvn_ hvc_ ge241_1 ul241_1
                      clear hcc241 hce241
                      have HR241_1 := Aside0.mk hi241_1
                      have HC241_1 := Aside0.mk hl241_1
                      clear hi241_1 hl241_1
                      replace p241 := eq_true p241
                      replace q241 := eq_true q241
                      have p242 : 0 ≤ (x6_1 : Int) := of_decide_eq_true (by first | (with_reducible assumption) | assumption)
                      have q242 : x6_1 < (l0.length : Int) := of_decide_eq_true (by first | (with_reducible assumption) | assumption)
                      obtain ⟨ad242, A242_1, c242_1, e242, hx242_0, hx242_1, hl242_1, hi242_1⟩ := at_T84 (Kd.V_reads' HO_0.out).2.2 x6_1 p242 q242
                      obtain rfl : ad231 = ad242 := (by injection e242)
                      obtain ⟨ce242, hce242, hMe242, hcc242⟩ := Kd.V_get HO_0.out z84 x6_1 p242 (by first | exact q242 | exact of_decide_eq_true (by first | (with_reducible assumption) | assumption) | (have e_ := (Kd.V_reads' HO_0.out).1; omega))
                      obtain ⟨ua242_1, uc242_1, rfl, ul242_1, ge242_1⟩ := k84_openF hMe242
                      have hv242_1 := hcc242 1 _ rfl
                      rw [add_field _ _ 1 (by omega)] at hv242_1
                      replace hv242_1 := Option.some.inj (hv242_1.symm.trans hx242_1)
                      injection hv242_1 with hva_ hvn_ hvc_
                      rw [hva_] at ge242_1
                      rw [hvc_] at ul242_1
                      have HL242_1 := Aside0.mk (show Kd.V (Kd.int .u32) 61 _ w.heap.size _ _ ((rd_T84 l0 x6_1).f1) from Kd.V_mk ul242_1 ge242_1)
                      clear hva_ hvn_ hvc_ ge242_1 ul242_1
                      clear hcc242 hce242
                      have HR242_1 := Aside0.mk hi242_1
                      have HC242_1 := Aside0.mk hl242_1
                      clear hi242_1 hl242_1
                      replace p242 := eq_true p242
                      replace q242 := eq_true q242
                      have ea_ := Option.some.inj (hx241_1.symm.trans hx242_1)
                      injection ea_ with ea_ en_ ec_
                      subst ea_
                      subst ec_
                      clear en_
                      refine start_ (n := 15) (S := fun w' => w'.cell? (ad231.add ((x6_1).toNat * 2)) = some (.int .u64 ((rd_T84 l0 x6_1).f0)) ∧ w'.cell? ⟨(ad231.add ((x6_1).toNat * 2)).block, (ad231.add ((x6_1).toNat * 2)).off + 1, none⟩ = some (.slice A241_1 ((rd_T84 l0 x6_1).f1).length c241_1) ∧ w'.cell? (ad231.add ((x6_1).toNat * 2)) = some (.int .u64 ((rd_T84 l0 x6_1).f0)) ∧ w'.cell? ⟨(ad231.add ((x6_1).toNat * 2)).block, (ad231.add ((x6_1).toNat * 2)).off + 1, none⟩ = some (.slice A241_1 ((rd_T84 l0 x6_1).f1).length c241_1)) (ds := [12, 13]) #[false, false, false, false, false, false, false, false, false, false, false, false, false, false, false] (by kernel_rfl) rfl rfl ⟨hx241_0, hx241_1, hx242_0, hx242_1⟩ (fun hHeld => ?_); refine with_tabW rubricatorlaw08_records.tab12 rubricatorlaw08_records.bits12 (fun HT_ HW_ => ?_)
                      generalize w12.drew = w13 at HO_0 HO_5 HL231_1 HL237_1 HO240 HB HL241_1 HL242_1 HR241_1 HR242_1 hx241_0 hx241_1 hx242_0 hx242_1 hHeld ⊢
                      refine pure_ (i := 0) (N := some 46) (v := ?_) (a' := ?_) #[true, false, false, false, false, false, false, false, false, false, false, false, false, false, false] rfl rfl (any_of HT_.out (by kernel_rfl)) (fun _ _ _ h => h) (Or.inl ⟨by rfl, ?_⟩) ?_ ?_
                      rotate_left
                      · intro w'
                        go_simp
                        with_reducible rfl
                      rotate_left
                      · simp only [Act.put, List.setIfInBounds_toArray, List.set_cons_zero, List.set_cons_succ, i64_w, i32_w]
                        rfl
                      refine pure_ (i := 1) (N := some 47) (v := ?_) (a' := ?_) #[true, true, false, false, false, false, false, false, false, false, false, false, false, false, false] rfl rfl (any_of HT_.out (by kernel_rfl)) (fun _ _ _ h => h) (Or.inl ⟨by rfl, ?_⟩) ?_ ?_
                      rotate_left
                      · intro w'
                        go_simp
                        with_reducible rfl
                      rotate_left
                      · simp only [Act.put, List.setIfInBounds_toArray, List.set_cons_zero, List.set_cons_succ, i64_w, i32_w]
                        rfl
                      refine pure_ (i := 2) (N := some 48) (v := ?_) (a' := ?_) #[true, true, true, false, false, false, false, false, false, false, false, false, false, false, false] rfl rfl (any_of HT_.out (by kernel_rfl)) (fun _ _ _ h => h) (Or.inl ⟨by rfl, ?_⟩) ?_ ?_
                      rotate_left
                      · intro w'
                        go_simp
                        with_reducible rfl
                      rotate_left
                      · simp only [Act.put, List.setIfInBounds_toArray, List.set_cons_zero, List.set_cons_succ, i64_w, i32_w]
                        rfl
                      refine pure_ (i := 3) (N := some 49) (v := ?_) (a' := ?_) #[true, true, true, true, false, false, false, false, false, false, false, false, false, false, false] rfl rfl (any_of HT_.out (by kernel_rfl)) (fun _ _ _ h => h) (Or.inl ⟨by rfl, ?_⟩) ?_ ?_
                      rotate_left
                      · intro w'
                        go_simp
                        with_reducible rfl
                      rotate_left
                      · simp only [Act.put, List.setIfInBounds_toArray, List.set_cons_zero, List.set_cons_succ, i64_w, i32_w]
                        rfl
                      refine pure_ (i := 4) (N := some 50) (v := ?_) (a' := ?_) #[true, true, true, true, true, false, false, false, false, false, false, false, false, false, false] rfl rfl (any_of HT_.out (by kernel_rfl)) (fun _ _ _ h => h) (Or.inl ⟨by rfl, ?_⟩) ?_ ?_
                      rotate_left
                      · intro w'
                        go_simp
                        with_reducible rfl
                      rotate_left
                      · simp only [Act.put, List.setIfInBounds_toArray, List.set_cons_zero, List.set_cons_succ, i64_w, i32_w]
                        rfl
                      refine pure_ (i := 6) (N := some 52) (v := ?_) (a' := ?_) #[true, true, true, true, true, false, true, false, false, false, false, false, false, false, false] rfl rfl (any_of HT_.out (by kernel_rfl)) (fun _ _ _ h => h) (Or.inl ⟨by rfl, ?_⟩) ?_ ?_
                      rotate_left
                      · intro w'
                        go_simp
                        with_reducible rfl
                      rotate_left
                      · simp only [Act.put, List.setIfInBounds_toArray, List.set_cons_zero, List.set_cons_succ, i64_w, i32_w]
                        rfl
                      refine pure_ (i := 7) (N := some 53) (v := ?_) (a' := ?_) #[true, true, true, true, true, false, true, true, false, false, false, false, false, false, false] rfl rfl (any_of HT_.out (by kernel_rfl)) (fun _ _ _ h => h) (Or.inl ⟨by rfl, ?_⟩) ?_ ?_
                      rotate_left
                      · intro w'
                        go_simp
                        with_reducible rfl
                      rotate_left
                      · simp only [Act.put, List.setIfInBounds_toArray, List.set_cons_zero, List.set_cons_succ, i64_w, i32_w]
                        rfl
                      refine pure_ (i := 8) (N := some 54) (v := ?_) (a' := ?_) #[true, true, true, true, true, false, true, true, true, false, false, false, false, false, false] rfl rfl (any_of HT_.out (by kernel_rfl)) (fun _ _ _ h => h) (Or.inl ⟨by rfl, ?_⟩) ?_ ?_
                      rotate_left
                      · intro w'
                        go_simp
                        with_reducible rfl
                      rotate_left
                      · simp only [Act.put, List.setIfInBounds_toArray, List.set_cons_zero, List.set_cons_succ, i64_w, i32_w]
                        rfl
                      refine pure_ (i := 9) (N := some 55) (v := ?_) (a' := ?_) #[true, true, true, true, true, false, true, true, true, true, false, false, false, false, false] rfl rfl (any_of HT_.out (by kernel_rfl)) (fun _ _ _ h => h) (Or.inl ⟨by rfl, ?_⟩) ?_ ?_
                      rotate_left
                      · intro w'
                        go_simp
                        with_reducible rfl
                      rotate_left
                      · simp only [Act.put, List.setIfInBounds_toArray, List.set_cons_zero, List.set_cons_succ, i64_w, i32_w]
                        rfl
                      refine take_ (i := 5) (N := some 51) (v := ?_) (a' := ?_) #[true, true, true, true, true, true, true, true, true, true, false, false, false, false, false] rfl rfl (take_ofW HT_.out HW_.out (by kernel_rfl)) (fun _ _ _ h => h) (Or.inl ⟨by rfl, ?_⟩) hHeld ?_ ?_
                      rotate_left
                      · rintro w' ⟨s0, s1, s2, s3⟩
                        go_simp
                        with_reducible rfl
                      rotate_left
                      · simp only [Act.put, List.setIfInBounds_toArray, List.set_cons_zero, List.set_cons_succ, i64_w, i32_w]
                        rfl
                      refine take_ (i := 10) (N := some 56) (v := ?_) (a' := ?_) #[true, true, true, true, true, true, true, true, true, true, true, false, false, false, false] rfl rfl (take_ofW HT_.out HW_.out (by kernel_rfl)) (fun _ _ _ h => h) (Or.inl ⟨by rfl, ?_⟩) hHeld ?_ ?_
                      rotate_left
                      · rintro w' ⟨s0, s1, s2, s3⟩
                        go_simp
                        with_reducible rfl
                      rotate_left
                      · simp only [Act.put, List.setIfInBounds_toArray, List.set_cons_zero, List.set_cons_succ, i64_w, i32_w]
                        rfl
                      refine pure_ (i := 11) (N := some 57) (v := ?_) (a' := ?_) #[true, true, true, true, true, true, true, true, true, true, true, true, false, false, false] rfl rfl (any_of HT_.out (by kernel_rfl)) (fun _ _ _ h => h) (Or.inl ⟨by rfl, ?_⟩) ?_ ?_
                      rotate_left
                      · intro w'
                        go_simp
                        with_reducible rfl
                      rotate_left
                      · simp only [Act.put, List.setIfInBounds_toArray, List.set_cons_zero, List.set_cons_succ, i64_w, i32_w]
                        rfl
                      refine last_ (i := 12) (N := some 58) #[true, true, true, true, true, true, true, true, true, true, true, true, true, false, false] rfl rfl (one_of HT_.out (by kernel_rfl)) (by decide) (fun K hK => ?_)
                      refine value_ (w1 := ?_) (v := ?_) (by rfl) rfl ?_ ?_
                      rotate_left 2
                      · go_simp
                        constructor
                        · rfl
                        · rfl
                      refine hK.out _ _ ?_
                      clear hK K
                      refine norm_ (a' := ?_) ?_ ?_
                      rotate_left
                      · show Act.put _ (some 58) _ = _
                        simp only [Act.put, List.setIfInBounds_toArray, List.set_cons_zero, List.set_cons_succ, i64_w, i32_w]
                        rfl
                      refine last_ (i := 13) (N := some 59) #[true, true, true, true, true, true, true, true, true, true, true, true, true, true, false] rfl rfl (one_of HT_.out (by kernel_rfl)) (by decide) (fun K hK => ?_)
                      refine Kd.N_append_step k139 (w0 := w) w.heap.size (by rfl) (.tmp 46) (.tmp 58) 67 139 (.agg #[(.int .u64 0), (.slice none 0 0)]) 32 rfl Try.underlying67 info139 rfl (by decide) (by omega) u5 x5_1 (⟨(rd_T84 l0 x6_1).f0, (rd_T84 l0 x6_1).f1⟩ : S139) [.int .u64 ((rd_T84 l0 x6_1).f0), .slice A241_1 ((rd_T84 l0 x6_1).f1).length c241_1] (fun k_ => (P0_ k_ ∨ w.heap.size ≤ k_) ∧ some k_ ≠ (v239 : Value).ownBlock) (fun k_ => ((fun k_ => (P0_ k_ ∨ w.heap.size ≤ k_) ∧ some k_ ≠ (v239 : Value).ownBlock)) k_ ∧ some k_ ≠ (u5 : Value).ownBlock) rfl rfl ?aP (fun _ hk => hk) ?aF ?aO ?aB ?aS ?aL ?_
                      (case aP => exact (k139_mkF _ _ (⟨(rd_T84 l0 x6_1).f0, (rd_T84 l0 x6_1).f1⟩ : S139) (Kd.V_reads' (Kd.V_mono (ok' := (fun k_ => ((fun k_ => (P0_ k_ ∨ w.heap.size ≤ k_) ∧ some k_ ≠ (v239 : Value).ownBlock)) k_ ∧ some k_ ≠ (u5 : Value).ownBlock)) (HL242_1.out) (fun k_ hk => ⟨⟨hk.1.1, hk.2⟩, hk.1.2.1⟩))).2.1 (Kd.V_F (Kd.V_mono (ok' := (fun k_ => ((fun k_ => (P0_ k_ ∨ w.heap.size ≤ k_) ∧ some k_ ≠ (v239 : Value).ownBlock)) k_ ∧ some k_ ≠ (u5 : Value).ownBlock)) (HL242_1.out) (fun k_ hk => ⟨⟨hk.1.1, hk.2⟩, hk.1.2.1⟩)))))
                      (case aB => exact (by repeat (first | (with_reducible first | exact HB.out | apply below_alloc | apply pw_below_drewN | apply below_drew1) | exact HB.out)))
                      (case aF => exact (fun k_ hk => ⟨(.inr (Nat.le_trans (below_size (by repeat (first | (with_reducible first | exact HB.out | apply below_alloc | apply pw_below_drewN | apply below_drew1) | exact HB.out))) hk)), Kd.fresh' (Kd.N_lt (by (with_reducible repeat (first | apply Kd.N_alloc | apply Kd.N_drewN | apply Kd.N_drew)); exact HO240.out)) k_ hk⟩))
                      (case aO => exact (by (with_reducible repeat (first | apply Kd.N_alloc | apply Kd.N_drewN | apply Kd.N_drew)); exact Kd.N_mono HO_5.out (fun _ hk => ⟨hk.1.1, hk.2⟩)))
                      (case aS => exact (below_size (by repeat (first | (with_reducible first | exact HB.out | apply below_alloc | apply pw_below_drewN | apply below_drew1) | exact HB.out))))
                      (case aL => have := LMc10.out; omega)
                      intro v244 w14 ho hb hg hat
                      rw [← Ny243.out] at ho
                      have n0_ := Aside0.mk (Kd.V_afterv (ok := (fun k_ => (P0_ k_ ∨ w.heap.size ≤ k_) ∧ some k_ ≠ (v239 : Value).ownBlock)) (by (with_reducible repeat (first | apply Kd.V_alloc | apply Kd.V_drewN | apply Kd.V_drew)); exact Kd.V_mono HO_0.out (fun _ hk => ⟨⟨hk.1.1, hk.2⟩, hk.1.2.1⟩)) hg hat)
                      have n1_ := Aside0.mk (Kd.V_afterv (ok := (fun k_ => (P0_ k_ ∨ w.heap.size ≤ k_) ∧ some k_ ≠ (v239 : Value).ownBlock)) (by (with_reducible repeat (first | apply Kd.V_alloc | apply Kd.V_drewN | apply Kd.V_drew)); exact Kd.V_mono HL231_1.out (fun _ hk => ⟨⟨hk.1.1, hk.2⟩, hk.1.2.1⟩)) hg hat)
                      have n2_ := Aside0.mk (Kd.V_afterv (ok := (fun k_ => (P0_ k_ ∨ w.heap.size ≤ k_) ∧ some k_ ≠ (v239 : Value).ownBlock)) (by (with_reducible repeat (first | apply Kd.V_alloc | apply Kd.V_drewN | apply Kd.V_drew)); exact Kd.V_mono HL237_1.out (fun _ hk => ⟨⟨hk.1.1, hk.2⟩, hk.1.2.1⟩)) hg hat)
                      have n3_ := Aside0.mk (Kd.N_afterv (ok := (fun k_ => (P0_ k_ ∨ w.heap.size ≤ k_))) (by (with_reducible repeat (first | apply Kd.N_alloc | apply Kd.N_drewN | apply Kd.N_drew)); exact HO240.out) hg hat)
                      have n4_ := Aside0.mk (Kd.V_afterv (ok := (fun k_ => (P0_ k_ ∨ w.heap.size ≤ k_) ∧ some k_ ≠ (v239 : Value).ownBlock)) (by (with_reducible repeat (first | apply Kd.V_alloc | apply Kd.V_drewN | apply Kd.V_drew)); exact Kd.V_mono HL241_1.out (fun _ hk => ⟨⟨hk.1.1, hk.2⟩, hk.1.2.1⟩)) hg hat)
                      have n5_ := Aside0.mk (Kd.V_afterv (ok := (fun k_ => (P0_ k_ ∨ w.heap.size ≤ k_) ∧ some k_ ≠ (v239 : Value).ownBlock)) (by (with_reducible repeat (first | apply Kd.V_alloc | apply Kd.V_drewN | apply Kd.V_drew)); exact Kd.V_mono HL242_1.out (fun _ hk => ⟨⟨hk.1.1, hk.2⟩, hk.1.2.1⟩)) hg hat)
                      have n6_ := Aside0.mk (hb)
                      have n7_ := Aside0.mk (ho)
                      clear HO_0
                      clear HL231_1
                      clear HL237_1
                      clear HO240
                      clear HL241_1
                      clear HL242_1
                      clear HB
                      clear HO_5
                      have HO_0 := n0_
                      have HL231_1 := n1_
                      have HL237_1 := n2_
                      have HO240 := n3_
                      have HL241_1 := n4_
                      have HL242_1 := n5_
                      have HB := n6_
                      have HO245 := n7_
                      clear n0_ n1_ n2_ n3_ n4_ n5_ n6_ n7_
                      clear ho hb hg hat
                      refine hK.out _ _ ?_
                      clear hK K
                      refine norm_ (a' := ?_) ?_ ?_
                      rotate_left
                      · show Act.put _ (some 59) _ = _
                        simp only [Act.put, List.setIfInBounds_toArray, List.set_cons_zero, List.set_cons_succ, i64_w, i32_w]
                        rfl
                      refine pure_ (i := 14) (N := some 5) (v := ?_) (a' := ?_) #[true, true, true, true, true, true, true, true, true, true, true, true, true, true, true] rfl rfl (any_of HT_.out (by kernel_rfl)) (fun _ _ _ h => h) (Or.inl ⟨by rfl, ?_⟩) ?_ ?_
                      rotate_left
                      · intro w'
                        go_simp
                        with_reducible rfl
                      rotate_left
                      · simp only [Act.put, List.setIfInBounds_toArray, List.set_cons_zero, List.set_cons_succ, i64_w, i32_w]
                        rfl
                      refine done_ (done_of HT_.out (by kernel_rfl)) ?_
                      try go_wp2
                      go_roundg k2
                      case measure => have := HK1.out; have := HK2.out; omega
                      case rel => exact ⟨(y238), (y243), (wrap64 (x6_1 + 1)), (by first | rfl | (simp; done) | (simp [*]; done)), H', ⟨by have := HK1.out; have := HK2.out; omega⟩, ⟨by (with_reducible repeat (first | apply Kd.V_alloc | apply Kd.V_drewN | apply Kd.V_drew)); exact Kd.V_mono HO_0.out (fun _ hk => ⟨hk.1.1, ⟨hk.1.2, hk.2⟩⟩)⟩, ⟨by (with_reducible repeat (first | apply Kd.N_alloc | apply Kd.N_drewN | apply Kd.N_drew)); exact HO240.out⟩, ⟨by (with_reducible repeat (first | apply Kd.N_alloc | apply Kd.N_drewN | apply Kd.N_drew)); exact HO245.out⟩, ⟨by repeat (first | (with_reducible first | exact HB.out | apply below_alloc | apply pw_below_drewN | apply below_drew1) | exact HB.out)⟩⟩
                    · rw [if_neg c10] at H
                      exact absurd H (by simp)
                  · rw [if_neg c9] at H
                    exact absurd H (by simp)
              · rw [if_neg c4] at H
                exact absurd H (by simp)
            · rw [if_neg c3] at H
              exact absurd H (by simp)
      · rw [if_neg c2] at H
        have c2b0 : decide (x6_1 < (l0.length : Int)) = false := decide_eq_false c2
        clear c2
        simp only [Option.some.injEq, Prod.mk.injEq] at H
        obtain ⟨rfl, rfl⟩ := H
        go_wp2
        go_ret2
        exact ⟨_, _, by first | rfl | (simp [errW_none, errW_some] <;> rfl) | (simp [*, errW_none, errW_some] <;> rfl), by (with_reducible repeat (first | apply Kd.N_alloc | apply Kd.N_drewN | apply Kd.N_drew)); exact HO_4.out, by (with_reducible repeat (first | apply Kd.N_alloc | apply Kd.N_drewN | apply Kd.N_drew)); exact HO_5.out, by repeat (first | (with_reducible first | exact HB.out | apply below_alloc | apply pw_below_drewN | apply below_drew1) | exact HB.out)⟩

end Go.Proofs.Ythijobbhpbklmaa.PSpacePlays
