-- PRINTED BY print.sh 35421559b90ae4d0a3588c463048766b98c2df88dd9212a6774a882060cdf62d: not written by this session
import Derived.Test.YthijobbhpbklmaaPDiskPlaysx0
import Derived.Test.YthijobbhpbklmaaPDiskPlaysx2
namespace Go.Proofs.Ythijobbhpbklmaa.PDiskPlays
open Go.RowKit Go.Proofs.YthijobbhpbklmaaW.PrintWords Go.Proofs.YthijobbhpbklmaaW.PrintLast Go.Proofs.YthijobbhpbklmaaW.PrintMore
attribute [local go_sem] max2_int min2_int max_two min_two max_three min_three max_four min_four   -- for this text's walks alone
set_option linter.unusedVariables false
set_option linter.unusedSimpArgs false

/-! ### rubricatorref03_set: function 63 -/
def rubricatorref03_set.f (l0 : List ByteArray) (a1 : Int) (a2 : ByteArray) : Option (List ByteArray) := if ([] : List ByteArray).length + l0.length < 8796093022208 then ((some (([] : List ByteArray) ++ l0 : List ByteArray)).bind fun y190 => (if 0 ≤ a1 then (if a1 < (y190.length : Int) then (some (y190.set (a1 : Int).toNat a2)) else (none)) else (none))) else (none)
set_option maxHeartbeats 8000000 in
set_option maxRecDepth 100000 in
theorem rubricatorref03_set.calls (A0 : Option Addr) (c0 : Nat) (l0 : List ByteArray) (a1 : Int) (a2 : ByteArray) (r : List ByteArray) (w : World) (hr0 : Kd.C Kd.string w A0 l0.length l0) (hc0 : l0.length ≤ c0) (h : rubricatorref03_set.f l0 a1 a2 = some r) :
    Calls Try.prog 63 #[.slice A0 l0.length c0, .int .i64 a1, .string a2] w fun e w' => ∃ v0_ : Value, e = .returned (v0_) ∧ Kd.R Kd.string 9 w' w.heap.size (fun _ => True) v0_ r ∧ Below w.heap.size w w' := by
  have HR0 := Aside0.mk hr0
  have HC0 := Aside0.mk hc0
  clear hr0 hc0
  have HB := Aside0.mk (Below.refl w.heap.size w)
  have H : (if ([] : List ByteArray).length + l0.length < 8796093022208 then ((some (([] : List ByteArray) ++ l0 : List ByteArray)).bind fun y190 => (if 0 ≤ a1 then (if a1 < (y190.length : Int) then (some (y190.set (a1 : Int).toNat a2)) else (none)) else (none))) else (none)) = some r := h
  clear h
  by_cases c4 : ([] : List ByteArray).length + l0.length < 8796093022208
  · rw [if_pos c4] at H
    have LMc4 := Aside0.mk c4
    clear c4
    obtain ⟨y190, hy190⟩ : ∃ y_ : List ByteArray, y_ = (([] : List ByteArray) ++ l0) := ⟨_, rfl⟩
    replace H : (if 0 ≤ a1 then (if a1 < (y190.length : Int) then (some (y190.set (a1 : Int).toNat a2)) else (none)) else (none)) = some r := by first | (rw [hy190]; with_reducible exact H) | (have H2_ := (Option.bind_some _ _).symm.trans H; rw [hy190]; with_reducible exact H2_) | (have H2_ := (Option.bind_some _ _).symm.trans H; with_reducible exact H2_) | with_reducible exact H | (rw [hy190]; exact H) | exact H
    have Ny190 := Aside0.mk hy190
    clear hy190
    by_cases c5 : 0 ≤ a1
    · rw [if_pos c5] at H
      have c5b0 : decide (0 ≤ a1) = true := decide_eq_true c5
      clear c5
      by_cases c6 : a1 < (y190.length : Int)
      · rw [if_pos c6] at H
        have c6b0 : decide (a1 < (y190.length : Int)) = true := decide_eq_true c6
        clear c6
        obtain ⟨y193, hy193⟩ : ∃ y_ : List ByteArray, y_ = (y190.set (a1 : Int).toNat a2) := ⟨_, rfl⟩
        replace H : (some y193) = some r := by first | (rw [hy193]; with_reducible exact H) | (have H2_ := (Option.bind_some _ _).symm.trans H; rw [hy193]; with_reducible exact H2_) | (have H2_ := (Option.bind_some _ _).symm.trans H; with_reducible exact H2_) | with_reducible exact H | (rw [hy193]; exact H) | exact H
        have Ny193 := Aside0.mk hy193
        clear hy193
        obtain rfl := Option.some.inj H
        go_enter Try.func63, Try.ntmps63
        go_wp2_with (first | ((with_reducible refine gate_builtin (b := .append) (xs := #[.tmp 8, .tmp 9]) rfl ?_); at_builtin; refine Kd.R_append_rows Kd.string (w0 := w) w.heap.size rfl (.tmp 8) (.tmp 9) 44 9 (.string ⟨#[]⟩) 16 rfl Try.underlying44 info9 rfl (by decide) (by omega) (.slice none 0 0) ([] : List ByteArray) l0 _ _ _ (fun _ => True) (fun _ => False) rfl rfl ?aO ?aR (fun _ _ h => h) (fun _ h => h.elim) ?aF ?aB ?aS ?aL ?_; (case aR => repeat (first | exact HR0.out | (with_reducible refine Kd.C_alloc ?_ _) | (with_reducible refine Kd.C_drewN ?_ _) | (with_reducible refine Kd.C_drew ?_))); (case aB => exact (by repeat (first | (with_reducible first | exact HB.out | apply below_alloc | apply pw_below_drewN | apply below_drew1) | exact HB.out))); (case aF => exact (fun _ _ => trivial)); (case aO => exact ((Kd.R_nil _ _ _ _ (fun _ => True)))); (case aS => exact (below_size (by repeat (first | (with_reducible first | exact HB.out | apply below_alloc | apply pw_below_drewN | apply below_drew1) | exact HB.out)))); (case aL => have := LMc4.out; omega); intro v191 w8 ho hb hg hat; rw [← Ny190.out] at ho; have n0_ := Aside0.mk (hb); have n1_ := Aside0.mk (ho); clear HB; have HB := n0_; have HO192 := n1_; clear n0_ n1_; clear ho hb hg hat; have p7 : 0 ≤ (a1 : Int) := of_decide_eq_true (by first | (with_reducible assumption) | assumption); have q7 : (a1 : Int) < ((y190.length : Int) : Int) := of_decide_eq_true (by first | (with_reducible assumption) | assumption); obtain ⟨go7, co7, eo7, gb7, gl7, cl7, HG7⟩ := Kd.R_form HO192.out (by omega); (first | cases eo7 | (injection eo7 with ea_ en_ ec_; (first | subst ea_ | (injection ea_ with ea_; subst ea_)); subst ec_; clear en_)); have GB7 := Aside0.mk gb7; have GG7 := Aside0.mk HG7; clear gb7 gl7 HG7; obtain ⟨hx7_0, hf7_0⟩ := Kd.R_celln (⟨#[]⟩ : ByteArray) HO192.out (a1 : Int) p7 q7; replace p7 := eq_true p7; replace q7 := eq_true q7; obtain ⟨hy9_, hz9_⟩ := Kd.R_celln (⟨#[]⟩ : ByteArray) HO192.out (a1 : Int) (of_decide_eq_true (by first | (with_reducible assumption) | assumption)) (of_decide_eq_true (by first | (with_reducible assumption) | assumption)); have HP9 := Kd.R_putg HO192.out (a1 : Int) a2) | ((with_reducible refine gate_store (t := 9) (p := 14) rfl ?_); refine store_event (t := 9) (p := 14) (v := ?vo_w10) (w1 := (w8.setCell ⟨go7, (a1 : Int).toNat, none⟩ (.string a2))) ?hg ?ho ?hn ?hr ?_; (case ho => rfl); (case hg => rfl); (case hn => rfl); (case hr => first | (go_simp; done) | (go_simp; rfl)); intro w10 hw; have hg : w8.grownBy w10 (some go7) := (by rw [hw]; exact HP9.2); have hp_ : Kd.R Kd.string 9 w10 w.heap.size (fun _ => True) (.slice (some ⟨go7, 0, none⟩) y190.length co7) y193 := (by rw [hw, Ny193.out]; exact HP9.1); clear HP9; have n0_ := Aside0.mk (hp_); have n1_ := Aside0.mk ((by rw [hw]; exact below_set (HB.out) GB7.out : Below w.heap.size w w10)); clear HO192; clear HB; have HO192 := n0_; have HB := n1_; clear n0_ n1_; clear hg hw hp_))
        go_ret
        exact ⟨_, by first | rfl | (simp [errW_none, errW_some] <;> rfl) | (simp [*, errW_none, errW_some] <;> rfl), by (with_reducible repeat (first | apply Kd.R_alloc | apply Kd.R_drewN | apply Kd.R_drew)); exact HO192.out, by repeat (first | (with_reducible first | exact HB.out | apply below_alloc | apply pw_below_drewN | apply below_drew1) | exact HB.out)⟩
      · rw [if_neg c6] at H
        exact absurd H (by simp)
    · rw [if_neg c5] at H
      exact absurd H (by simp)
  · rw [if_neg c4] at H
    exact absurd H (by simp)

/-! ### rubricatorref03_Sync: function 33 -/
def rubricatorref03_Sync.l0 : Nat → Int → Int → Int → List ByteArray → List (S135) → Int → Int → Option (Int × Int × List ByteArray × (List (S135)) × Int × Int × Int)
  | 0, _, _, _, _, _, _, _ => none
  | k + 1, x5, x195000, x195001, x195002, x195003, x195004, x195005 => if x5 < (x195003.length : Int) then (if 0 ≤ x5 then ((rubricatorref03_set.f x195002 ((rd_T135 x195003 x5).f0) ((rd_T135 x195003 x5).f1)).bind fun t209 => (rubricatorref03_Sync.l0 k (wrap64 (x5 + 1)) x195000 x195001 t209 x195003 x195004 x195005)) else (none)) else (some (x195000, x195001, x195002, ([] : List (S135)), x195004, x195005, 0))
def rubricatorref03_Sync.f (k : Nat) (a0_0 : Int) (a0_1 : Int) (l0_2 : List ByteArray) (l0_3 : List (S135)) (a0_4 : Int) (a0_5 : Int) : Option (Int × Int × List ByteArray × (List (S135)) × Int × Int × Int) := (rubricatorref03_count.f a0_0 a0_1 l0_2 l0_3 a0_4 a0_5).bind fun bt196 => (if bt196.2.2.2.2.2.2 = 0 then (rubricatorref03_Sync.l0 k 0 bt196.1 bt196.2.1 bt196.2.2.1 bt196.2.2.2.1 bt196.2.2.2.2.1 bt196.2.2.2.2.2.1) else (some (bt196.1, bt196.2.1, bt196.2.2.1, bt196.2.2.2.1, bt196.2.2.2.2.1, bt196.2.2.2.2.2.1, bt196.2.2.2.2.2.2)))
theorem rubricatorref03_Sync.mono_l : ∀ k, (∀ y0 y1 y2 y3 y4 y5 y6, LeO (rubricatorref03_Sync.l0 k y0 y1 y2 y3 y4 y5 y6) (rubricatorref03_Sync.l0 (k + 1) y0 y1 y2 y3 y4 y5 y6))
  | 0 => fun _ _ _ _ _ _ _ r h => by simp [rubricatorref03_Sync.l0] at h
  | k + 1 => by
    have ih0 := rubricatorref03_Sync.mono_l k
    · intro y0 y1 y2 y3 y4 y5 y6
      unfold rubricatorref03_Sync.l0
      repeat' first
      | (with_reducible exact ih0 _ _ _ _ _ _ _)
      | (with_reducible exact LeO.refl _)
      | (with_reducible exact LeO.none _)
      | (with_reducible refine LeO.ite ?_ ?_)
      | (with_reducible refine LeO.bind ?_ (fun _ => ?_))
      | exact ih0 _ _ _ _ _ _ _
      | exact LeO.none _
      | refine LeO.ite ?_ ?_
      | refine LeO.bind ?_ (fun _ => ?_)
theorem rubricatorref03_Sync.mono : ∀ a0 a1 a2 a3 a4 a5 k, LeO (rubricatorref03_Sync.f k a0 a1 a2 a3 a4 a5) (rubricatorref03_Sync.f (k + 1) a0 a1 a2 a3 a4 a5) := by
  intro a0 a1 a2 a3 a4 a5 k
  have ih0 := rubricatorref03_Sync.mono_l k
  unfold rubricatorref03_Sync.f
  repeat' first
      | (with_reducible exact ih0 _ _ _ _ _ _ _)
      | (with_reducible exact LeO.refl _)
      | (with_reducible exact LeO.none _)
      | (with_reducible refine LeO.ite ?_ ?_)
      | (with_reducible refine LeO.bind ?_ (fun _ => ?_))
      | exact ih0 _ _ _ _ _ _ _
      | exact LeO.none _
      | refine LeO.ite ?_ ?_
      | refine LeO.bind ?_ (fun _ => ?_)
def rubricatorref03_Sync.T7 : Bool × List (List Nat × List Nat) := (true, [([], []), ([0], [0]), ([], []), ([2], [2]), ([], []), ([3, 4], [3, 4]), ([5], [5]), ([6], [6]), ([], []), ([8], [8]), ([], []), ([9, 10], [9, 10]), ([11], [11]), ([12], [12]), ([1, 7, 13], [1, 7, 13]), ([0, 1, 2, 3, 4, 5, 6, 7, 8, 9, 10, 11, 12, 13, 14], []), ([15, 14, 14, 0, 1, 2, 3, 4, 5, 6, 7, 8, 9, 10, 11, 12, 13, 14], [14, 15])])
def rubricatorref03_Sync.B7 : List Nat := [0, 1, 0, 4, 0, 28, 60, 124, 0, 256, 0, 1792, 3840, 7936, 16383, 32767, 65535]
theorem rubricatorref03_Sync.tab7 : rtab .any (opsOf Try.f33 7) = rubricatorref03_Sync.T7 := by kernel_rfl
theorem rubricatorref03_Sync.bits7 : waitsOk rubricatorref03_Sync.T7.2 rubricatorref03_Sync.B7 = true := by kernel_rfl
set_option maxHeartbeats 8000000 in
set_option maxRecDepth 100000 in
theorem rubricatorref03_Sync.calls (k : Nat) (a0_0 : Int) (a0_1 : Int) (P0_2_ : Nat → Prop) (u9000_ : Value) (l0_2 : List ByteArray) (P0_3_ : Nat → Prop) (u9001_ : Value) (l0_3 : List (S135)) (a0_4 : Int) (a0_5 : Int) (r1 : Int) (r2 : Int) (r3 : List ByteArray) (r4 : List (S135)) (r5 : Int) (r6 : Int) (r7 : Int) (w0 w : World) (hB : Below w0.heap.size w0 w) (ho0_2 : Kd.R Kd.string 9 w w0.heap.size P0_2_ u9000_ l0_2) (ho0_3 : Kd.R k135 135 w w0.heap.size P0_3_ u9001_ l0_3) (h : rubricatorref03_Sync.f k a0_0 a0_1 l0_2 l0_3 a0_4 a0_5 = some (r1, r2, r3, r4, r5, r6, r7)) :
    Calls Try.prog 33 #[.agg #[.int .i64 a0_0, .int .i64 a0_1, u9000_, u9001_, .int .i64 a0_4, .int .i64 a0_5]] w fun e w' => ∃ v2_ v3_ : Value, e = .returned (.tuple #[.agg #[.int .i64 r1, .int .i64 r2, v2_, v3_, .int .i64 r5, .int .i64 r6], .int .i64 r7]) ∧ Kd.R Kd.string 9 w' w0.heap.size (fun k_ => ((P0_2_ k_ ∨ P0_3_ k_) ∨ w.heap.size ≤ k_)) v2_ r3 ∧ Kd.R k135 135 w' w0.heap.size (fun k_ => ((P0_2_ k_ ∨ P0_3_ k_) ∨ w.heap.size ≤ k_)) v3_ r4 ∧ Below w0.heap.size w0 w' ∧ Kept w w' (fun k_ => P0_2_ k_ ∨ P0_3_ k_) := by
  have hu47 := Try.underlying47
  have HO0_2 := Aside0.mk (show Kd.R Kd.string 9 w w0.heap.size (fun k_ => ((P0_2_ k_ ∨ P0_3_ k_) ∨ w.heap.size ≤ k_)) u9000_ l0_2 from Kd.R_mono ho0_2 (fun k_ hk => (.inl (.inl hk))))
  have HO0_3 := Aside0.mk (show Kd.R k135 135 w w0.heap.size (fun k_ => ((P0_2_ k_ ∨ P0_3_ k_) ∨ w.heap.size ≤ k_)) u9001_ l0_3 from Kd.R_mono ho0_3 (fun k_ hk => (.inl (.inr hk))))
  have HK := Aside0.mk (Kept.refl w (fun k_ => P0_2_ k_ ∨ P0_3_ k_))
  have HW0 := Aside0.mk hB.size
  have HB := Aside0.mk hB
  clear hB
  have H : ((rubricatorref03_count.f a0_0 a0_1 l0_2 l0_3 a0_4 a0_5).bind fun bt196 => (if bt196.2.2.2.2.2.2 = 0 then (rubricatorref03_Sync.l0 k 0 bt196.1 bt196.2.1 bt196.2.2.1 bt196.2.2.2.1 bt196.2.2.2.2.1 bt196.2.2.2.2.2.1) else (some (bt196.1, bt196.2.1, bt196.2.2.1, bt196.2.2.2.1, bt196.2.2.2.2.1, bt196.2.2.2.2.2.1, bt196.2.2.2.2.2.2)))) = some (r1, r2, r3, r4, r5, r6, r7) := h
  clear h
  replace H := Option.bind_eq_some_iff.mp H
  obtain ⟨⟨t196, t197, t198, t201, t204, t205, t206⟩, A20, H⟩ := H
  replace H : (if t206 = 0 then (rubricatorref03_Sync.l0 k 0 t196 t197 t198 t201 t204 t205) else (some (t196, t197, t198, t201, t204, t205, t206))) = some (r1, r2, r3, r4, r5, r6, r7) := H
  have A2 := Aside0.mk A20
  clear A20
  by_cases c3 : t206 = 0
  · rw [if_pos c3] at H
    have c3b0 : (t206 == 0) = true := beq_iff_eq.mpr c3
    have c3b1 : (t206 != 0) = false := bne_eq_false_iff_eq.mpr c3
    clear c3
    have H' := Aside0.mk H
    clear H
    obtain ⟨Ao4, co4, eo4⟩ := Kd.R_slice HO0_2.out
    subst eo4
    obtain ⟨Ao5, co5, eo5⟩ := Kd.R_slice HO0_3.out
    subst eo5
    go_enter Try.func33, Try.ntmps33
    go_wp2_with (first | ((with_reducible refine gate_dst (N := 1) rfl ?_); refine box_event ?hg (N := 1) ?hd (cs := #[.int .i64 a0_0, .int .i64 a0_1, .slice Ao4 l0_2.length co4, .slice Ao5 l0_3.length co5, .int .i64 a0_4, .int .i64 a0_5]) (t := 47) ?hr ?_; (case hd => rfl); (case hg => rfl); (case hr => first | (go_simp; done) | (go_simp; rfl)); intro gb194 hg w6 hbox hb; have n0_ := Aside0.mk (Kd.R_below (by (with_reducible repeat (first | apply Kd.R_alloc | apply Kd.R_drewN | apply Kd.R_drew)); exact HO0_2.out) hb); have n1_ := Aside0.mk (Kd.R_below (by (with_reducible repeat (first | apply Kd.R_alloc | apply Kd.R_drewN | apply Kd.R_drew)); exact HO0_3.out) hb); have n2_ := Aside0.mk (Kept.below (S := (fun k_ => P0_2_ k_ ∨ P0_3_ k_)) (by repeat (first | (with_reducible first | exact HK.out | apply Kept.alloc | apply Kept.drewN | apply Kept.drew) | exact HK.out)) hb); have n3_ := Aside0.mk (below_step (by repeat (first | (with_reducible first | exact HB.out | apply below_alloc | apply pw_below_drewN | apply below_drew1) | exact HB.out)) hb); have n4_ := Aside0.mk (hbox); have n5_ := Aside0.mk ((by rw [hg]; exact (by first | exact HK.out.1 | exact (show Kept w _ (fun k_ => P0_2_ k_ ∨ P0_3_ k_) from by repeat (first | (with_reducible first | exact HK.out | apply Kept.alloc | apply Kept.drewN | apply Kept.drew) | exact HK.out)).1) : w.heap.size ≤ gb194)); have n6_ := Aside0.mk ((by rw [hg]; exact (below_size (by repeat (first | (with_reducible first | exact HB.out | apply below_alloc | apply pw_below_drewN | apply below_drew1) | exact HB.out))) : w0.heap.size ≤ gb194)); clear HO0_2; clear HO0_3; clear HK; clear HB; have HO0_2 := n0_; have HO0_3 := n1_; have HK := n2_; have HB := n3_; have BK194 := n4_; have GW194 := n5_; have GE194 := n6_; clear n0_ n1_ n2_ n3_ n4_ n5_ n6_; clear hb hbox hg) | ((with_reducible refine gate_dst (N := 2) rfl ?_); refine box_event ?hg (N := 2) ?hd (cs := #[.int .i64 0, .int .i64 0, .slice none 0 0, .slice none 0 0, .int .i64 0, .int .i64 0]) (t := 47) ?hr ?_; (case hd => rfl); (case hg => rfl); (case hr => first | (go_simp; done) | (go_simp; rfl)); intro gb195 hg w7 hbox hb; have n0_ := Aside0.mk (Kd.R_below (by (with_reducible repeat (first | apply Kd.R_alloc | apply Kd.R_drewN | apply Kd.R_drew)); exact HO0_2.out) hb); have n1_ := Aside0.mk (Kd.R_below (by (with_reducible repeat (first | apply Kd.R_alloc | apply Kd.R_drewN | apply Kd.R_drew)); exact HO0_3.out) hb); have n2_ := Aside0.mk (blk_below (g := gb194) (o := .cells #[.int .i64 a0_0, .int .i64 a0_1, .slice Ao4 l0_2.length co4, .slice Ao5 l0_3.length co5, .int .i64 a0_4, .int .i64 a0_5] 47 (0, 0)) (by (with_reducible repeat (first | refine blk_drewN ?_ _ | refine blk_drew ?_ | refine blk_alloc ?_ _)); exact BK194.out) hb); have n3_ := Aside0.mk (Kept.below (S := (fun k_ => P0_2_ k_ ∨ P0_3_ k_)) (by repeat (first | (with_reducible first | exact HK.out | apply Kept.alloc | apply Kept.drewN | apply Kept.drew | refine Kept.setCell ?_ (.inr GW194.out) _) | exact HK.out)) hb); have n4_ := Aside0.mk (below_step (by repeat (first | (with_reducible first | exact HB.out | apply below_alloc | apply pw_below_drewN | apply below_drew1 | refine below_set ?_ GE194.out) | exact HB.out)) hb); have n5_ := Aside0.mk (hbox); have n6_ := Aside0.mk ((by rw [hg]; exact (by first | exact HK.out.1 | exact (show Kept w _ (fun k_ => P0_2_ k_ ∨ P0_3_ k_) from by repeat (first | (with_reducible first | exact HK.out | apply Kept.alloc | apply Kept.drewN | apply Kept.drew | refine Kept.setCell ?_ (.inr GW194.out) _) | exact HK.out)).1) : w.heap.size ≤ gb195)); have n7_ := Aside0.mk ((by rw [hg]; exact (below_size (by repeat (first | (with_reducible first | exact HB.out | apply below_alloc | apply pw_below_drewN | apply below_drew1 | refine below_set ?_ GE194.out) | exact HB.out))) : w0.heap.size ≤ gb195)); have n8_ := Aside0.mk ((by rw [hg]; exact Nat.ne_of_lt (blk_lt (g := gb194) (o := .cells #[.int .i64 a0_0, .int .i64 a0_1, .slice Ao4 l0_2.length co4, .slice Ao5 l0_3.length co5, .int .i64 a0_4, .int .i64 a0_5] 47 (0, 0)) (by (with_reducible repeat (first | refine blk_drewN ?_ _ | refine blk_drew ?_ | refine blk_alloc ?_ _)); exact BK194.out)) : gb194 ≠ gb195)); have n9_ := Aside0.mk ((by rw [hg]; exact Nat.ne_of_gt (blk_lt (g := gb194) (o := .cells #[.int .i64 a0_0, .int .i64 a0_1, .slice Ao4 l0_2.length co4, .slice Ao5 l0_3.length co5, .int .i64 a0_4, .int .i64 a0_5] 47 (0, 0)) (by (with_reducible repeat (first | refine blk_drewN ?_ _ | refine blk_drew ?_ | refine blk_alloc ?_ _)); exact BK194.out)) : gb195 ≠ gb194)); clear HO0_2; clear HO0_3; clear BK194; clear HK; clear HB; have HO0_2 := n0_; have HO0_3 := n1_; have BK194 := n2_; have HK := n3_; have HB := n4_; have BK195 := n5_; have GW195 := n6_; have GE195 := n7_; have NB194_195 := n8_; have NB195_194 := n9_; clear n0_ n1_ n2_ n3_ n4_ n5_ n6_ n7_ n8_ n9_; clear hb hbox hg; have hnb8 := NB194_195.out; have hnc8 := NB195_194.out; have hcz9_0 : w7.cell? ⟨gb194, 0, none⟩ = some (.int .i64 a0_0) := (blk_cell BK194.out 0).trans rfl; have hcz9_1 : w7.cell? ⟨gb194, 1, none⟩ = some (.int .i64 a0_1) := (blk_cell BK194.out 1).trans rfl; have hcz9_2 : w7.cell? ⟨gb194, 2, none⟩ = some (.slice Ao4 l0_2.length co4) := (blk_cell BK194.out 2).trans rfl; have hcz9_3 : w7.cell? ⟨gb194, 3, none⟩ = some (.slice Ao5 l0_3.length co5) := (blk_cell BK194.out 3).trans rfl; have hcz9_4 : w7.cell? ⟨gb194, 4, none⟩ = some (.int .i64 a0_4) := (blk_cell BK194.out 4).trans rfl; have hcz9_5 : w7.cell? ⟨gb194, 5, none⟩ = some (.int .i64 a0_5) := (blk_cell BK194.out 5).trans rfl; have hfz9_0 := blk_frozen BK194.out 0; have hfz9_1 := blk_frozen BK194.out 1; have hfz9_2 := blk_frozen BK194.out 2; have hfz9_3 := blk_frozen BK194.out 3; have hfz9_4 := blk_frozen BK194.out 4; have hfz9_5 := blk_frozen BK194.out 5) | ((with_reducible refine gate_callee (f := 61) rfl ?_); refine goesL_ (some 8) rfl rfl Try.func61 (by kernel_rfl) rfl #[.agg #[.int .i64 a0_0, .int .i64 a0_1, .slice Ao4 l0_2.length co4, .slice Ao5 l0_3.length co5, .int .i64 a0_4, .int .i64 a0_5]] rfl (by (try simp only [List.map_toArray, List.map_cons, List.map_nil]); first | done | rfl | (simp only [List.length_drop, List.length_take]; rfl)) ?_; (with_reducible refine (rubricatorref03_count.calls a0_0 a0_1 (fun k_ => some k_ = (.slice Ao4 l0_2.length co4 : Value).ownBlock) (.slice Ao4 l0_2.length co4) l0_2 (fun k_ => some k_ = (.slice Ao5 l0_3.length co5 : Value).ownBlock) (.slice Ao5 l0_3.length co5) l0_3 a0_4 a0_5 t196 t197 t198 t201 t204 t205 t206 w0 _ ?side1 ?side2 ?side3 A2.out).mono ?_); (case side1 => repeat (first | (with_reducible first | exact HB.out | apply below_alloc | apply pw_below_drewN | apply below_drew1 | refine below_set ?_ GE194.out | refine below_set ?_ GE195.out) | exact HB.out)); (case side2 => exact Kd.R_tight rfl HO0_2.out); (case side3 => exact Kd.R_tight rfl HO0_3.out); rintro e w10 ⟨v199, v202, rfl, ho0, ho1, hb, hkp⟩; refine ⟨_, rfl, ?_⟩; have n0_ := Aside0.mk (blk_kept (by (with_reducible repeat (first | refine blk_drewN ?_ _ | refine blk_drew ?_ | refine blk_alloc ?_ _)); exact BK194.out) hkp (fun hs_ => Or.elim hs_ (fun e_ => (fun e_ => (Kd.R_ne HO0_2.out BK194.out (by decide)) e_) e_) (fun e_ => (fun e_ => (Kd.R_ne HO0_3.out BK194.out (by decide)) e_) e_))); have n1_ := Aside0.mk (blk_kept (by (with_reducible repeat (first | refine blk_drewN ?_ _ | refine blk_drew ?_ | refine blk_alloc ?_ _)); exact BK195.out) hkp (fun hs_ => Or.elim hs_ (fun e_ => (fun e_ => (Kd.R_ne HO0_2.out BK195.out (by decide)) e_) e_) (fun e_ => (fun e_ => (Kd.R_ne HO0_3.out BK195.out (by decide)) e_) e_))); have n2_ := Aside0.mk (Kd.R_mono (ok' := fun k_ => ((P0_2_ k_ ∨ P0_3_ k_) ∨ w.heap.size ≤ k_)) ho0 (fun k_ hk_ => Or.elim hk_ (fun hs_ => Or.elim hs_ (fun hs_ => (HO0_2.out.1 k_ (hs_).symm)) (fun hs_ => (HO0_3.out.1 k_ (hs_).symm))) (fun hn_ => (.inr (Nat.le_trans (by first | exact HK.out.1 | exact (show Kept w _ (fun k_ => P0_2_ k_ ∨ P0_3_ k_) from by repeat (first | (with_reducible first | exact HK.out | apply Kept.alloc | apply Kept.drewN | apply Kept.drew | refine Kept.setCell ?_ (.inr GW194.out) _ | refine Kept.setCell ?_ (.inr GW195.out) _) | exact HK.out)).1) hn_))))); have n3_ := Aside0.mk (Kd.R_mono (ok' := fun k_ => ((P0_2_ k_ ∨ P0_3_ k_) ∨ w.heap.size ≤ k_)) ho1 (fun k_ hk_ => Or.elim hk_ (fun hs_ => Or.elim hs_ (fun hs_ => (HO0_2.out.1 k_ (hs_).symm)) (fun hs_ => (HO0_3.out.1 k_ (hs_).symm))) (fun hn_ => (.inr (Nat.le_trans (by first | exact HK.out.1 | exact (show Kept w _ (fun k_ => P0_2_ k_ ∨ P0_3_ k_) from by repeat (first | (with_reducible first | exact HK.out | apply Kept.alloc | apply Kept.drewN | apply Kept.drew | refine Kept.setCell ?_ (.inr GW194.out) _ | refine Kept.setCell ?_ (.inr GW195.out) _) | exact HK.out)).1) hn_))))); have n4_ := Aside0.mk (Kept.then_ (S := (fun k_ => P0_2_ k_ ∨ P0_3_ k_)) (by repeat (first | (with_reducible first | exact HK.out | apply Kept.alloc | apply Kept.drewN | apply Kept.drew | refine Kept.setCell ?_ (.inr GW194.out) _ | refine Kept.setCell ?_ (.inr GW195.out) _) | exact HK.out)) hkp (fun k_ hs_ => Or.elim hs_ (fun e_ => (fun e_ => (HO0_2.out.1 k_ e_.symm)) e_) (fun e_ => (fun e_ => (HO0_3.out.1 k_ e_.symm)) e_))); have n5_ := Aside0.mk (hb); clear BK194; clear BK195; clear HK; clear HB; clear HO0_2; clear HO0_3; have BK194 := n0_; have BK195 := n1_; have HO200 := n2_; have HO203 := n3_; have HK := n4_; have HB := n5_; clear n0_ n1_ n2_ n3_ n4_ n5_; (try clear hb); (try clear hkp); (try clear ho0); (try clear ho1); have hcz11_0 : w10.cell? ⟨gb194, 0, none⟩ = some (.int .i64 a0_0) := (blk_cell BK194.out 0).trans rfl; have hcz11_1 : w10.cell? ⟨gb194, 1, none⟩ = some (.int .i64 a0_1) := (blk_cell BK194.out 1).trans rfl; have hcz11_2 : w10.cell? ⟨gb194, 2, none⟩ = some (.slice Ao4 l0_2.length co4) := (blk_cell BK194.out 2).trans rfl; have hcz11_3 : w10.cell? ⟨gb194, 3, none⟩ = some (.slice Ao5 l0_3.length co5) := (blk_cell BK194.out 3).trans rfl; have hcz11_4 : w10.cell? ⟨gb194, 4, none⟩ = some (.int .i64 a0_4) := (blk_cell BK194.out 4).trans rfl; have hcz11_5 : w10.cell? ⟨gb194, 5, none⟩ = some (.int .i64 a0_5) := (blk_cell BK194.out 5).trans rfl; have hfz11_0 := blk_frozen BK194.out 0; have hfz11_1 := blk_frozen BK194.out 1; have hfz11_2 := blk_frozen BK194.out 2; have hfz11_3 := blk_frozen BK194.out 3; have hfz11_4 := blk_frozen BK194.out 4; have hfz11_5 := blk_frozen BK194.out 5; obtain ⟨Ao12, co12, eo12⟩ := Kd.R_slice HO200.out; subst eo12; obtain ⟨Ao13, co13, eo13⟩ := Kd.R_slice HO203.out; subst eo13))
    go_loopg [5] k (fun kq v5 w' => ∃ (x5_1 : Int) (x195002_1 : List ByteArray) (u195002 : Value), v5 = .int .i64 x5_1 ∧ Aside0 (rubricatorref03_Sync.l0 kq x5_1 t196 t197 x195002_1 t201 t204 t205 = some (r1, r2, r3, r4, r5, r6, r7)) ∧ Aside0 (kq ≤ k) ∧ Aside0 (Kd.R Kd.string 9 w' w0.heap.size (fun k_ => ((P0_2_ k_ ∨ P0_3_ k_) ∨ w.heap.size ≤ k_)) u195002 x195002_1) ∧ Aside0 (Kd.R k135 135 w' w0.heap.size (fun k_ => ((P0_2_ k_ ∨ P0_3_ k_) ∨ w.heap.size ≤ k_)) (.slice Ao13 t201.length co13) t201) ∧ Aside0 (w'.heap[gb194]? = some (.cells #[.int .i64 t196, .int .i64 t197, u195002, (.slice Ao13 t201.length co13), .int .i64 t204, .int .i64 t205] 47 (0, 0))) ∧ Aside0 (w'.heap[gb195]? = some (.cells #[.int .i64 0, .int .i64 0, (.slice none 0 0), (.slice none 0 0), .int .i64 0, .int .i64 0] 47 (0, 0))) ∧ Aside0 (Kept w w' (fun k_ => P0_2_ k_ ∨ P0_3_ k_)) ∧ Aside0 (Below w0.heap.size w0 w'))
    case atStart => exact ⟨(0), (t198), (.slice Ao12 t198.length co12), (by first | rfl | (simp; done) | (simp [*]; done)), H', ⟨Nat.le_refl _⟩, ⟨by (with_reducible repeat (first | apply Kd.R_alloc | apply Kd.R_drewN | apply Kd.R_drew)); exact Kd.R_mono (Kd.R_far (p := ⟨gb194, 5, none⟩) (Kd.R_far (p := ⟨gb194, 4, none⟩) (Kd.R_far (p := ⟨gb194, 3, none⟩) (Kd.R_far (p := ⟨gb194, 2, none⟩) (Kd.R_far (p := ⟨gb194, 1, none⟩) (Kd.R_far (p := ⟨gb194, 0, none⟩) (Kd.R_types HO200.out BK194.out (by decide)) (fun _ hk => hk.2) (.int .i64 t196)) (fun _ hk => hk.2) (.int .i64 t197)) (fun _ hk => hk.2) (.slice Ao12 t198.length co12)) (fun _ hk => hk.2) (.slice Ao13 t201.length co13)) (fun _ hk => hk.2) (.int .i64 t204)) (fun _ hk => hk.2) (.int .i64 t205)) (fun _ hk => hk.1)⟩, ⟨by (with_reducible repeat (first | apply Kd.R_alloc | apply Kd.R_drewN | apply Kd.R_drew)); exact Kd.R_mono (Kd.R_far (p := ⟨gb194, 5, none⟩) (Kd.R_far (p := ⟨gb194, 4, none⟩) (Kd.R_far (p := ⟨gb194, 3, none⟩) (Kd.R_far (p := ⟨gb194, 2, none⟩) (Kd.R_far (p := ⟨gb194, 1, none⟩) (Kd.R_far (p := ⟨gb194, 0, none⟩) (Kd.R_types HO203.out BK194.out (by decide)) (fun _ hk => hk.2) (.int .i64 t196)) (fun _ hk => hk.2) (.int .i64 t197)) (fun _ hk => hk.2) (.slice Ao12 t198.length co12)) (fun _ hk => hk.2) (.slice Ao13 t201.length co13)) (fun _ hk => hk.2) (.int .i64 t204)) (fun _ hk => hk.2) (.int .i64 t205)) (fun _ hk => hk.1)⟩, ⟨by (with_reducible repeat (first | refine blk_drewN ?_ _ | refine blk_drew ?_ | refine blk_alloc ?_ _)); refine blk_put (cs := #[.int .i64 t196, .int .i64 t197, .slice Ao12 t198.length co12, .slice Ao13 t201.length co13, .int .i64 t204, .int .i64 a0_5]) ?_ 5 _ rfl; (with_reducible repeat (first | refine blk_drewN ?_ _ | refine blk_drew ?_ | refine blk_alloc ?_ _)); refine blk_put (cs := #[.int .i64 t196, .int .i64 t197, .slice Ao12 t198.length co12, .slice Ao13 t201.length co13, .int .i64 a0_4, .int .i64 a0_5]) ?_ 4 _ rfl; (with_reducible repeat (first | refine blk_drewN ?_ _ | refine blk_drew ?_ | refine blk_alloc ?_ _)); refine blk_put (cs := #[.int .i64 t196, .int .i64 t197, .slice Ao12 t198.length co12, .slice Ao5 l0_3.length co5, .int .i64 a0_4, .int .i64 a0_5]) ?_ 3 _ rfl; (with_reducible repeat (first | refine blk_drewN ?_ _ | refine blk_drew ?_ | refine blk_alloc ?_ _)); refine blk_put (cs := #[.int .i64 t196, .int .i64 t197, .slice Ao4 l0_2.length co4, .slice Ao5 l0_3.length co5, .int .i64 a0_4, .int .i64 a0_5]) ?_ 2 _ rfl; (with_reducible repeat (first | refine blk_drewN ?_ _ | refine blk_drew ?_ | refine blk_alloc ?_ _)); refine blk_put (cs := #[.int .i64 t196, .int .i64 a0_1, .slice Ao4 l0_2.length co4, .slice Ao5 l0_3.length co5, .int .i64 a0_4, .int .i64 a0_5]) ?_ 1 _ rfl; (with_reducible repeat (first | refine blk_drewN ?_ _ | refine blk_drew ?_ | refine blk_alloc ?_ _)); refine blk_put (cs := #[.int .i64 a0_0, .int .i64 a0_1, .slice Ao4 l0_2.length co4, .slice Ao5 l0_3.length co5, .int .i64 a0_4, .int .i64 a0_5]) ?_ 0 _ rfl; (with_reducible repeat (first | refine blk_drewN ?_ _ | refine blk_drew ?_ | refine blk_alloc ?_ _)); exact BK194.out⟩, ⟨by (with_reducible repeat (first | refine blk_drewN ?_ _ | refine blk_drew ?_ | refine blk_alloc ?_ _)); refine blk_far ?_ NB195_194.out _; (with_reducible repeat (first | refine blk_drewN ?_ _ | refine blk_drew ?_ | refine blk_alloc ?_ _)); refine blk_far ?_ NB195_194.out _; (with_reducible repeat (first | refine blk_drewN ?_ _ | refine blk_drew ?_ | refine blk_alloc ?_ _)); refine blk_far ?_ NB195_194.out _; (with_reducible repeat (first | refine blk_drewN ?_ _ | refine blk_drew ?_ | refine blk_alloc ?_ _)); refine blk_far ?_ NB195_194.out _; (with_reducible repeat (first | refine blk_drewN ?_ _ | refine blk_drew ?_ | refine blk_alloc ?_ _)); refine blk_far ?_ NB195_194.out _; (with_reducible repeat (first | refine blk_drewN ?_ _ | refine blk_drew ?_ | refine blk_alloc ?_ _)); refine blk_far ?_ NB195_194.out _; (with_reducible repeat (first | refine blk_drewN ?_ _ | refine blk_drew ?_ | refine blk_alloc ?_ _)); exact BK195.out⟩, ⟨by repeat (first | (with_reducible first | exact HK.out | apply Kept.alloc | apply Kept.drewN | apply Kept.drew | refine Kept.setCell ?_ (.inr GW194.out) _ | refine Kept.setCell ?_ (.inr GW195.out) _) | exact HK.out)⟩, ⟨by repeat (first | (with_reducible first | exact HB.out | apply below_alloc | apply pw_below_drewN | apply below_drew1 | refine below_set ?_ GE194.out | refine below_set ?_ GE195.out) | exact HB.out)⟩⟩
    case round =>
      clear H'
      try clear p2
      try clear c3
      try clear c3b0
      try clear c3b1
      try clear c6
      try clear c8
      try clear hcz11_0
      try clear hcz11_1
      try clear hcz11_2
      try clear hcz11_3
      try clear hcz11_4
      try clear hcz11_5
      try clear hcz9_0
      try clear hcz9_1
      try clear hcz9_2
      try clear hcz9_3
      try clear hcz9_4
      try clear hcz9_5
      try clear hfz11_0
      try clear hfz11_1
      try clear hfz11_2
      try clear hfz11_3
      try clear hfz11_4
      try clear hfz11_5
      try clear hfz9_0
      try clear hfz9_1
      try clear hfz9_2
      try clear hfz9_3
      try clear hfz9_4
      try clear hfz9_5
      obtain ⟨x5_1, x195002_1, u195002, rfl, HA, HK1, HO_195002, HO_195003, BK194, BK195, HK, HB⟩ := hrel
      cases gk with
      | zero => exact absurd HA.out (by simp [rubricatorref03_Sync.l0])
      | succ k1 =>
        have H := HA.out
        clear HA
        simp only [rubricatorref03_Sync.l0] at H
        by_cases c14 : x5_1 < (t201.length : Int)
        · rw [if_pos c14] at H
          have c14b0 : decide (x5_1 < (t201.length : Int)) = true := decide_eq_true c14
          clear c14
          by_cases c15 : 0 ≤ x5_1
          · rw [if_pos c15] at H
            have c15b0 : decide (0 ≤ x5_1) = true := decide_eq_true c15
            clear c15
            replace H := Option.bind_eq_some_iff.mp H
            obtain ⟨t209, A160, H⟩ := H
            replace H : (rubricatorref03_Sync.l0 k1 (wrap64 (x5_1 + 1)) t196 t197 t209 t201 t204 t205) = some (r1, r2, r3, r4, r5, r6, r7) := H
            have A16 := Aside0.mk A160
            clear A160
            have H' := Aside0.mk H
            clear H
            have hnb17 := NB194_195.out
            have hnc17 := NB195_194.out
            have hcz18_0 : wr.cell? ⟨gb194, 0, none⟩ = some (.int .i64 t196) := (blk_cell BK194.out 0).trans rfl
            have hcz18_1 : wr.cell? ⟨gb194, 1, none⟩ = some (.int .i64 t197) := (blk_cell BK194.out 1).trans rfl
            have hcz18_2 : wr.cell? ⟨gb194, 2, none⟩ = some (u195002) := (blk_cell BK194.out 2).trans rfl
            have hcz18_3 : wr.cell? ⟨gb194, 3, none⟩ = some (.slice Ao13 t201.length co13) := (blk_cell BK194.out 3).trans rfl
            have hcz18_4 : wr.cell? ⟨gb194, 4, none⟩ = some (.int .i64 t204) := (blk_cell BK194.out 4).trans rfl
            have hcz18_5 : wr.cell? ⟨gb194, 5, none⟩ = some (.int .i64 t205) := (blk_cell BK194.out 5).trans rfl
            have hfz18_0 := blk_frozen BK194.out 0
            have hfz18_1 := blk_frozen BK194.out 1
            have hfz18_2 := blk_frozen BK194.out 2
            have hfz18_3 := blk_frozen BK194.out 3
            have hfz18_4 := blk_frozen BK194.out 4
            have hfz18_5 := blk_frozen BK194.out 5
            try go_wp2
            have n0_ := Aside0.mk (Kd.R_drew HO_195002.out)
            have n1_ := Aside0.mk (Kd.R_drew HO_195003.out)
            have n2_ := Aside0.mk (blk_drew BK194.out)
            have n3_ := Aside0.mk (blk_drew BK195.out)
            have n4_ := Aside0.mk (Kept.drew HK.out)
            have n5_ := Aside0.mk (below_drew1 HB.out)
            clear HO_195002
            clear HO_195003
            clear BK194
            clear BK195
            clear HK
            clear HB
            have HO_195002 := n0_
            have HO_195003 := n1_
            have BK194 := n2_
            have BK195 := n3_
            have HK := n4_
            have HB := n5_
            clear n0_ n1_ n2_ n3_ n4_ n5_
            have p207 : 0 ≤ (x5_1 : Int) := of_decide_eq_true (by first | (with_reducible assumption) | assumption)
            have q207 : x5_1 < (t201.length : Int) := of_decide_eq_true (by first | (with_reducible assumption) | assumption)
            obtain ⟨ad207, e207, hx207_0, hx207_1⟩ := at_T135 (Kd.R_reads' HO_195003.out).2.2 x5_1 p207 q207
            cases e207
            replace p207 := eq_true p207
            replace q207 := eq_true q207
            have p208 : 0 ≤ (x5_1 : Int) := of_decide_eq_true (by first | (with_reducible assumption) | assumption)
            have q208 : x5_1 < (t201.length : Int) := of_decide_eq_true (by first | (with_reducible assumption) | assumption)
            obtain ⟨ad208, e208, hx208_0, hx208_1⟩ := at_T135 (Kd.R_reads' HO_195003.out).2.2 x5_1 p208 q208
            obtain rfl : ad207 = ad208 := (by injection e208)
            replace p208 := eq_true p208
            replace q208 := eq_true q208
            obtain ⟨Ao20, co20, eo20⟩ := Kd.R_slice HO_195002.out
            (first | subst eo20 | (injection eo20 with f1_ f2_ f3_; have f4_ := f1_.symm; have f5_ := f3_.symm; clear f1_ f2_ f3_; subst f4_; subst f5_))
            refine start_ (n := 17) (S := fun w' => w'.cell? ⟨gb194, 0, none⟩ = some (.int .i64 t196) ∧ w'.cell? ⟨gb194, 1, none⟩ = some (.int .i64 t197) ∧ w'.cell? ⟨gb194, 2, none⟩ = some (.slice Ao20 x195002_1.length co20) ∧ w'.cell? ⟨gb194, 3, none⟩ = some (.slice (some ad207) t201.length co13) ∧ w'.cell? ⟨gb194, 4, none⟩ = some (.int .i64 t204) ∧ w'.cell? ⟨gb194, 5, none⟩ = some (.int .i64 t205) ∧ w'.cell? (ad207.add ((x5_1).toNat * 2)) = some (.int .i64 ((rd_T135 t201 x5_1).f0)) ∧ w'.cell? ⟨(ad207.add ((x5_1).toNat * 2)).block, (ad207.add ((x5_1).toNat * 2)).off + 1, none⟩ = some (.string ((rd_T135 t201 x5_1).f1)) ∧ w'.cell? (ad207.add ((x5_1).toNat * 2)) = some (.int .i64 ((rd_T135 t201 x5_1).f0)) ∧ w'.cell? ⟨(ad207.add ((x5_1).toNat * 2)).block, (ad207.add ((x5_1).toNat * 2)).off + 1, none⟩ = some (.string ((rd_T135 t201 x5_1).f1))) (ds := [16]) #[false, false, false, false, false, false, false, false, false, false, false, false, false, false, false, false, false] (by kernel_rfl) rfl rfl ⟨(blk_cell BK194.out 0).trans rfl, (blk_cell BK194.out 1).trans rfl, (blk_cell BK194.out 2).trans rfl, (blk_cell BK194.out 3).trans rfl, (blk_cell BK194.out 4).trans rfl, (blk_cell BK194.out 5).trans rfl, hx207_0, hx207_1, hx208_0, hx208_1⟩ (fun hHeld => ?_); refine with_tabW rubricatorref03_Sync.tab7 rubricatorref03_Sync.bits7 (fun HT_ HW_ => ?_)
            generalize wr.drew = w19 at HO_195002 HO_195003 BK194 BK195 HK HB hx207_0 hx207_1 hx208_0 hx208_1 hHeld ⊢
            refine pure_ (i := 0) (N := some 22) (v := ?_) (a' := ?_) #[true, false, false, false, false, false, false, false, false, false, false, false, false, false, false, false, false] rfl rfl (any_of HT_.out (by kernel_rfl)) (fun _ _ _ h => h) (Or.inl ⟨by rfl, ?_⟩) ?_ ?_
            rotate_left
            · intro w'
              go_simp
              with_reducible rfl
            rotate_left
            · simp only [Act.put, List.setIfInBounds_toArray, List.set_cons_zero, List.set_cons_succ, i64_w, i32_w]
              rfl
            refine pure_ (i := 2) (N := some 24) (v := ?_) (a' := ?_) #[true, false, true, false, false, false, false, false, false, false, false, false, false, false, false, false, false] rfl rfl (any_of HT_.out (by kernel_rfl)) (fun _ _ _ h => h) (Or.inl ⟨by rfl, ?_⟩) ?_ ?_
            rotate_left
            · intro w'
              go_simp
              with_reducible rfl
            rotate_left
            · simp only [Act.put, List.setIfInBounds_toArray, List.set_cons_zero, List.set_cons_succ, i64_w, i32_w]
              rfl
            refine pure_ (i := 4) (N := some 26) (v := ?_) (a' := ?_) #[true, false, true, false, true, false, false, false, false, false, false, false, false, false, false, false, false] rfl rfl (any_of HT_.out (by kernel_rfl)) (fun _ _ _ h => h) (Or.inl ⟨by rfl, ?_⟩) ?_ ?_
            rotate_left
            · intro w'
              go_simp
              with_reducible rfl
            rotate_left
            · simp only [Act.put, List.setIfInBounds_toArray, List.set_cons_zero, List.set_cons_succ, i64_w, i32_w]
              rfl
            refine pure_ (i := 8) (N := some 30) (v := ?_) (a' := ?_) #[true, false, true, false, true, false, false, false, true, false, false, false, false, false, false, false, false] rfl rfl (any_of HT_.out (by kernel_rfl)) (fun _ _ _ h => h) (Or.inl ⟨by rfl, ?_⟩) ?_ ?_
            rotate_left
            · intro w'
              go_simp
              with_reducible rfl
            rotate_left
            · simp only [Act.put, List.setIfInBounds_toArray, List.set_cons_zero, List.set_cons_succ, i64_w, i32_w]
              rfl
            refine pure_ (i := 10) (N := some 32) (v := ?_) (a' := ?_) #[true, false, true, false, true, false, false, false, true, false, true, false, false, false, false, false, false] rfl rfl (any_of HT_.out (by kernel_rfl)) (fun _ _ _ h => h) (Or.inl ⟨by rfl, ?_⟩) ?_ ?_
            rotate_left
            · intro w'
              go_simp
              with_reducible rfl
            rotate_left
            · simp only [Act.put, List.setIfInBounds_toArray, List.set_cons_zero, List.set_cons_succ, i64_w, i32_w]
              rfl
            refine take_ (i := 1) (N := some 23) (v := ?_) (a' := ?_) #[true, true, true, false, true, false, false, false, true, false, true, false, false, false, false, false, false] rfl rfl (take_ofW HT_.out HW_.out (by kernel_rfl)) (fun _ _ _ h => h) (Or.inl ⟨by rfl, ?_⟩) hHeld ?_ ?_
            rotate_left
            · rintro w' ⟨s0, s1, s2, s3, s4, s5, s6, s7, s8, s9⟩
              go_simp
              with_reducible rfl
            rotate_left
            · simp only [Act.put, List.setIfInBounds_toArray, List.set_cons_zero, List.set_cons_succ, i64_w, i32_w]
              rfl
            refine take_ (i := 3) (N := some 25) (v := ?_) (a' := ?_) #[true, true, true, true, true, false, false, false, true, false, true, false, false, false, false, false, false] rfl rfl (take_ofW HT_.out HW_.out (by kernel_rfl)) (fun _ _ _ h => h) (Or.inl ⟨by rfl, ?_⟩) hHeld ?_ ?_
            rotate_left
            · rintro w' ⟨s0, s1, s2, s3, s4, s5, s6, s7, s8, s9⟩
              go_simp
              with_reducible rfl
            rotate_left
            · simp only [Act.put, List.setIfInBounds_toArray, List.set_cons_zero, List.set_cons_succ, i64_w, i32_w]
              rfl
            refine pure_ (i := 5) (N := some 27) (v := ?_) (a' := ?_) #[true, true, true, true, true, true, false, false, true, false, true, false, false, false, false, false, false] rfl rfl (any_of HT_.out (by kernel_rfl)) (fun _ _ _ h => h) (Or.inl ⟨by rfl, ?_⟩) ?_ ?_
            rotate_left
            · intro w'
              go_simp
              with_reducible rfl
            rotate_left
            · simp only [Act.put, List.setIfInBounds_toArray, List.set_cons_zero, List.set_cons_succ, i64_w, i32_w]
              rfl
            refine pure_ (i := 6) (N := some 28) (v := ?_) (a' := ?_) #[true, true, true, true, true, true, true, false, true, false, true, false, false, false, false, false, false] rfl rfl (any_of HT_.out (by kernel_rfl)) (fun _ _ _ h => h) (Or.inl ⟨by rfl, ?_⟩) ?_ ?_
            rotate_left
            · intro w'
              go_simp
              with_reducible rfl
            rotate_left
            · simp only [Act.put, List.setIfInBounds_toArray, List.set_cons_zero, List.set_cons_succ, i64_w, i32_w]
              rfl
            refine take_ (i := 7) (N := some 29) (v := ?_) (a' := ?_) #[true, true, true, true, true, true, true, true, true, false, true, false, false, false, false, false, false] rfl rfl (take_ofW HT_.out HW_.out (by kernel_rfl)) (fun _ _ _ h => h) (Or.inl ⟨by rfl, ?_⟩) hHeld ?_ ?_
            rotate_left
            · rintro w' ⟨s0, s1, s2, s3, s4, s5, s6, s7, s8, s9⟩
              go_simp
              with_reducible rfl
            rotate_left
            · simp only [Act.put, List.setIfInBounds_toArray, List.set_cons_zero, List.set_cons_succ, i64_w, i32_w]
              rfl
            refine take_ (i := 9) (N := some 31) (v := ?_) (a' := ?_) #[true, true, true, true, true, true, true, true, true, true, true, false, false, false, false, false, false] rfl rfl (take_ofW HT_.out HW_.out (by kernel_rfl)) (fun _ _ _ h => h) (Or.inl ⟨by rfl, ?_⟩) hHeld ?_ ?_
            rotate_left
            · rintro w' ⟨s0, s1, s2, s3, s4, s5, s6, s7, s8, s9⟩
              go_simp
              with_reducible rfl
            rotate_left
            · simp only [Act.put, List.setIfInBounds_toArray, List.set_cons_zero, List.set_cons_succ, i64_w, i32_w]
              rfl
            refine pure_ (i := 11) (N := some 33) (v := ?_) (a' := ?_) #[true, true, true, true, true, true, true, true, true, true, true, true, false, false, false, false, false] rfl rfl (any_of HT_.out (by kernel_rfl)) (fun _ _ _ h => h) (Or.inl ⟨by rfl, ?_⟩) ?_ ?_
            rotate_left
            · intro w'
              go_simp
              with_reducible rfl
            rotate_left
            · simp only [Act.put, List.setIfInBounds_toArray, List.set_cons_zero, List.set_cons_succ, i64_w, i32_w]
              rfl
            refine pure_ (i := 12) (N := some 34) (v := ?_) (a' := ?_) #[true, true, true, true, true, true, true, true, true, true, true, true, true, false, false, false, false] rfl rfl (any_of HT_.out (by kernel_rfl)) (fun _ _ _ h => h) (Or.inl ⟨by rfl, ?_⟩) ?_ ?_
            rotate_left
            · intro w'
              go_simp
              with_reducible rfl
            rotate_left
            · simp only [Act.put, List.setIfInBounds_toArray, List.set_cons_zero, List.set_cons_succ, i64_w, i32_w]
              rfl
            refine take_ (i := 13) (N := some 35) (v := ?_) (a' := ?_) #[true, true, true, true, true, true, true, true, true, true, true, true, true, true, false, false, false] rfl rfl (take_ofW HT_.out HW_.out (by kernel_rfl)) (fun _ _ _ h => h) (Or.inl ⟨by rfl, ?_⟩) hHeld ?_ ?_
            rotate_left
            · rintro w' ⟨s0, s1, s2, s3, s4, s5, s6, s7, s8, s9⟩
              go_simp
              with_reducible rfl
            rotate_left
            · simp only [Act.put, List.setIfInBounds_toArray, List.set_cons_zero, List.set_cons_succ, i64_w, i32_w]
              rfl
            refine one_ (i := 14) (N := some 36) #[true, true, true, true, true, true, true, true, true, true, true, true, true, true, true, false, false] rfl rfl (one_of HT_.out (by kernel_rfl)) (by decide) (fun K hK => ?_)
            refine goes_ Try.func63 (by kernel_rfl) rfl #[.slice Ao20 x195002_1.length co20, .int .i64 ((rd_T135 t201 x5_1).f0), .string ((rd_T135 t201 x5_1).f1)] (by rfl) rfl rfl (by (try simp only [List.map_toArray, List.map_cons, List.map_nil]); first | done | rfl | (simp only [List.length_drop, List.length_take]; rfl)) ?_
            with_reducible refine (rubricatorref03_set.calls _ _ x195002_1 ((rd_T135 t201 x5_1).f0) ((rd_T135 t201 x5_1).f1) t209 _ ?side1 ?side2 A16.out).mono ?_
            (case side1 => repeat (first | exact (Kd.R_reads' HO_195002.out).2.2 | (with_reducible refine Kd.C_alloc ?_ _) | (with_reducible refine Kd.C_drewN ?_ _) | (with_reducible refine Kd.C_drew ?_)))
            (case side2 => exact (Kd.R_reads' HO_195002.out).2.1)
            rintro e w21 ⟨v210, rfl, ho0, hb⟩
            have HS6_ := (hb.cell (World.block_lt_of_cell? _ _ (hHeld.2.2.2.2.2.2.1))).trans (hHeld.2.2.2.2.2.2.1)
            have HS7_ := (hb.cell (World.block_lt_of_cell? _ _ (hHeld.2.2.2.2.2.2.2.1))).trans (hHeld.2.2.2.2.2.2.2.1)
            have HS8_ := (hb.cell (World.block_lt_of_cell? _ _ (hHeld.2.2.2.2.2.2.2.2.1))).trans (hHeld.2.2.2.2.2.2.2.2.1)
            have HS9_ := (hb.cell (World.block_lt_of_cell? _ _ (hHeld.2.2.2.2.2.2.2.2.2))).trans (hHeld.2.2.2.2.2.2.2.2.2)
            refine ⟨_, rfl, ?_⟩
            have n0_ := Aside0.mk (Kd.R_elder' (by (with_reducible repeat (first | apply Kd.R_alloc | apply Kd.R_drewN | apply Kd.R_drew)); exact HO_195002.out) (Kd.R_base ho0) hb)
            have n1_ := Aside0.mk (Kd.R_below (by (with_reducible repeat (first | apply Kd.R_alloc | apply Kd.R_drewN | apply Kd.R_drew)); exact HO_195003.out) hb)
            have n2_ := Aside0.mk (Kd.R_lower (Kd.R_new' (Kd.R_newM (M := fun k_ => ((P0_2_ k_ ∨ P0_3_ k_) ∨ w.heap.size ≤ k_)) ho0 (by first | exact HK.out.1 | exact (show Kept w _ (fun k_ => P0_2_ k_ ∨ P0_3_ k_) from by repeat (first | (with_reducible first | exact HK.out | apply Kept.alloc | apply Kept.drewN | apply Kept.drew | refine Kept.setCell ?_ (.inr GW194.out) _ | refine Kept.setCell ?_ (.inr GW195.out) _) | exact HK.out)).1) (fun k_ h_ => .inr h_)) (Kd.R_lt (by (with_reducible repeat (first | apply Kd.R_alloc | apply Kd.R_drewN | apply Kd.R_drew)); exact HO_195002.out))) (below_size (by repeat (first | (with_reducible first | exact HB.out | apply below_alloc | apply pw_below_drewN | apply below_drew1 | refine below_set ?_ GE194.out | refine below_set ?_ GE195.out) | exact HB.out))))
            have n3_ := Aside0.mk (blk_below (g := gb194) (o := .cells #[.int .i64 t196, .int .i64 t197, .slice Ao20 x195002_1.length co20, .slice (some ad207) t201.length co13, .int .i64 t204, .int .i64 t205] 47 (0, 0)) (by (with_reducible repeat (first | refine blk_drewN ?_ _ | refine blk_drew ?_ | refine blk_alloc ?_ _)); exact BK194.out) hb)
            have n4_ := Aside0.mk (blk_below (g := gb195) (o := .cells #[.int .i64 0, .int .i64 0, .slice none 0 0, .slice none 0 0, .int .i64 0, .int .i64 0] 47 (0, 0)) (by (with_reducible repeat (first | refine blk_drewN ?_ _ | refine blk_drew ?_ | refine blk_alloc ?_ _)); exact BK195.out) hb)
            have n5_ := Aside0.mk (Kept.below (S := (fun k_ => P0_2_ k_ ∨ P0_3_ k_)) (by repeat (first | (with_reducible first | exact HK.out | apply Kept.alloc | apply Kept.drewN | apply Kept.drew | refine Kept.setCell ?_ (.inr GW194.out) _ | refine Kept.setCell ?_ (.inr GW195.out) _) | exact HK.out)) hb)
            have n6_ := Aside0.mk (below_step (by repeat (first | (with_reducible first | exact HB.out | apply below_alloc | apply pw_below_drewN | apply below_drew1 | refine below_set ?_ GE194.out | refine below_set ?_ GE195.out) | exact HB.out)) hb)
            clear HO_195002
            clear HO_195003
            clear BK194
            clear BK195
            clear HK
            clear HB
            have HO_195002 := n0_
            have HO_195003 := n1_
            have HO211 := n2_
            have BK194 := n3_
            have BK195 := n4_
            have HK := n5_
            have HB := n6_
            clear n0_ n1_ n2_ n3_ n4_ n5_ n6_
            (try clear hb)
            (try clear hb2)
            (try clear hk)
            (try clear hi)
            (try clear ho0)
            obtain ⟨Ao22, co22, eo22⟩ := Kd.R_slice HO211.out
            (first | subst eo22 | (injection eo22 with f1_ f2_ f3_; have f4_ := f1_.symm; have f5_ := f3_.symm; clear f1_ f2_ f3_; subst f4_; subst f5_))
            refine hK.out _ _ ⟨(blk_cell BK194.out 0).trans rfl, (blk_cell BK194.out 1).trans rfl, (blk_cell BK194.out 2).trans rfl, (blk_cell BK194.out 3).trans rfl, (blk_cell BK194.out 4).trans rfl, (blk_cell BK194.out 5).trans rfl, HS6_, HS7_, HS8_, HS9_⟩ (fun hHeld => ?_)
            clear hK K
            refine norm_ (a' := ?_) ?_ ?_
            rotate_left
            · show Act.put _ (some 36) _ = _
              simp only [Act.put, List.setIfInBounds_toArray, List.set_cons_zero, List.set_cons_succ, i64_w, i32_w]
              rfl
            refine pure_ (i := 15) (N := some 37) (v := ?_) (a' := ?_) #[true, true, true, true, true, true, true, true, true, true, true, true, true, true, true, true, false] rfl rfl (any_of HT_.out (by kernel_rfl)) (fun _ _ _ h => h) (Or.inl ⟨by rfl, ?_⟩) ?_ ?_
            rotate_left
            · intro w'
              go_simp
              with_reducible rfl
            rotate_left
            · simp only [Act.put, List.setIfInBounds_toArray, List.set_cons_zero, List.set_cons_succ, i64_w, i32_w]
              rfl
            refine last_ (i := 16) (N := none) #[true, true, true, true, true, true, true, true, true, true, true, true, true, true, true, true, true] rfl rfl (one_of HT_.out (by kernel_rfl)) (by decide) (fun K hK => ?_)
            have hs23 : w21.cell? ⟨gb194, 2, none⟩ = some (.slice Ao20 x195002_1.length co20) := (blk_cell BK194.out 2).trans rfl
            have hfs23 := blk_frozen BK194.out 2
            have hns23_1 := NB195_194.out
            have hms23_1 := NB194_195.out
            refine skip_ (w1 := ?_) (by rfl) rfl ?_ ?_
            rotate_left
            · go_simp
              rfl
            refine hK.out _ _ ?_
            clear hK K
            refine done_ (done_of HT_.out (by kernel_rfl)) ?_
            try go_wp2
            go_roundg k1
            case measure => have := HK1.out; omega
            case rel => exact ⟨(wrap64 (x5_1 + 1)), (t209), (.slice Ao22 t209.length co22), (by first | rfl | (simp; done) | (simp [*]; done)), H', ⟨by have := HK1.out; omega⟩, ⟨by (with_reducible repeat (first | apply Kd.R_alloc | apply Kd.R_drewN | apply Kd.R_drew)); exact Kd.R_mono (Kd.R_far (p := ⟨gb194, 2, none⟩) (Kd.R_types HO211.out BK194.out (by decide)) (fun _ hk => hk.2) (.slice Ao22 t209.length co22)) (fun _ hk => hk.1.1.1)⟩, ⟨by (with_reducible repeat (first | apply Kd.R_alloc | apply Kd.R_drewN | apply Kd.R_drew)); exact Kd.R_mono (Kd.R_far (p := ⟨gb194, 2, none⟩) (Kd.R_types HO_195003.out BK194.out (by decide)) (fun _ hk => hk.2) (.slice Ao22 t209.length co22)) (fun _ hk => hk.1)⟩, ⟨by (with_reducible repeat (first | refine blk_drewN ?_ _ | refine blk_drew ?_ | refine blk_alloc ?_ _)); refine blk_put (cs := #[.int .i64 t196, .int .i64 t197, .slice Ao20 x195002_1.length co20, .slice (some ad207) t201.length co13, .int .i64 t204, .int .i64 t205]) ?_ 2 _ rfl; (with_reducible repeat (first | refine blk_drewN ?_ _ | refine blk_drew ?_ | refine blk_alloc ?_ _)); exact BK194.out⟩, ⟨by (with_reducible repeat (first | refine blk_drewN ?_ _ | refine blk_drew ?_ | refine blk_alloc ?_ _)); refine blk_far ?_ NB195_194.out _; (with_reducible repeat (first | refine blk_drewN ?_ _ | refine blk_drew ?_ | refine blk_alloc ?_ _)); exact BK195.out⟩, ⟨by repeat (first | (with_reducible first | exact HK.out | apply Kept.alloc | apply Kept.drewN | apply Kept.drew | refine Kept.setCell ?_ (.inr GW194.out) _ | refine Kept.setCell ?_ (.inr GW195.out) _) | exact HK.out)⟩, ⟨by repeat (first | (with_reducible first | exact HB.out | apply below_alloc | apply pw_below_drewN | apply below_drew1 | refine below_set ?_ GE194.out | refine below_set ?_ GE195.out) | exact HB.out)⟩⟩
          · rw [if_neg c15] at H
            exact absurd H (by simp)
        · rw [if_neg c14] at H
          have c14b0 : decide (x5_1 < (t201.length : Int)) = false := decide_eq_false c14
          clear c14
          simp only [Option.some.injEq, Prod.mk.injEq] at H
          obtain ⟨rfl, rfl, rfl, rfl, rfl, rfl, rfl⟩ := H
          have hnb24 := NB194_195.out
          have hnc24 := NB195_194.out
          have hcz25_0 : wr.cell? ⟨gb194, 0, none⟩ = some (.int .i64 t196) := (blk_cell BK194.out 0).trans rfl
          have hcz25_1 : wr.cell? ⟨gb194, 1, none⟩ = some (.int .i64 t197) := (blk_cell BK194.out 1).trans rfl
          have hcz25_2 : wr.cell? ⟨gb194, 2, none⟩ = some (u195002) := (blk_cell BK194.out 2).trans rfl
          have hcz25_3 : wr.cell? ⟨gb194, 3, none⟩ = some (.slice Ao13 t201.length co13) := (blk_cell BK194.out 3).trans rfl
          have hcz25_4 : wr.cell? ⟨gb194, 4, none⟩ = some (.int .i64 t204) := (blk_cell BK194.out 4).trans rfl
          have hcz25_5 : wr.cell? ⟨gb194, 5, none⟩ = some (.int .i64 t205) := (blk_cell BK194.out 5).trans rfl
          have hfz25_0 := blk_frozen BK194.out 0
          have hfz25_1 := blk_frozen BK194.out 1
          have hfz25_2 := blk_frozen BK194.out 2
          have hfz25_3 := blk_frozen BK194.out 3
          have hfz25_4 := blk_frozen BK194.out 4
          have hfz25_5 := blk_frozen BK194.out 5
          have hcz26_0 : wr.cell? ⟨gb195, 0, none⟩ = some (.int .i64 0) := (blk_cell BK195.out 0).trans rfl
          have hcz26_1 : wr.cell? ⟨gb195, 1, none⟩ = some (.int .i64 0) := (blk_cell BK195.out 1).trans rfl
          have hcz26_2 : wr.cell? ⟨gb195, 2, none⟩ = some (.slice none 0 0) := (blk_cell BK195.out 2).trans rfl
          have hcz26_3 : wr.cell? ⟨gb195, 3, none⟩ = some (.slice none 0 0) := (blk_cell BK195.out 3).trans rfl
          have hcz26_4 : wr.cell? ⟨gb195, 4, none⟩ = some (.int .i64 0) := (blk_cell BK195.out 4).trans rfl
          have hcz26_5 : wr.cell? ⟨gb195, 5, none⟩ = some (.int .i64 0) := (blk_cell BK195.out 5).trans rfl
          have hfz26_0 := blk_frozen BK195.out 0
          have hfz26_1 := blk_frozen BK195.out 1
          have hfz26_2 := blk_frozen BK195.out 2
          have hfz26_3 := blk_frozen BK195.out 3
          have hfz26_4 := blk_frozen BK195.out 4
          have hfz26_5 := blk_frozen BK195.out 5
          obtain ⟨Ao27, co27, eo27⟩ := Kd.R_slice HO_195002.out
          subst eo27
          go_wp2
          refine bodyPost_ret (results_ct rfl _ _ gb195 47 #[.int .i64 t196, .int .i64 t197, .slice Ao27 x195002_1.length co27, .slice none 0 0, .int .i64 t204, .int .i64 t205] (0, 0) _ rfl (by (with_reducible repeat (first | refine blk_drewN ?_ _ | refine blk_drew ?_ | refine blk_alloc ?_ _)); refine blk_put (cs := #[.int .i64 t196, .int .i64 t197, .slice Ao27 x195002_1.length co27, .slice none 0 0, .int .i64 t204, .int .i64 0]) ?_ 5 _ rfl; (with_reducible repeat (first | refine blk_drewN ?_ _ | refine blk_drew ?_ | refine blk_alloc ?_ _)); refine blk_put (cs := #[.int .i64 t196, .int .i64 t197, .slice Ao27 x195002_1.length co27, .slice none 0 0, .int .i64 0, .int .i64 0]) ?_ 4 _ rfl; (with_reducible repeat (first | refine blk_drewN ?_ _ | refine blk_drew ?_ | refine blk_alloc ?_ _)); refine blk_put (cs := #[.int .i64 t196, .int .i64 t197, .slice Ao27 x195002_1.length co27, .slice none 0 0, .int .i64 0, .int .i64 0]) ?_ 3 _ rfl; (with_reducible repeat (first | refine blk_drewN ?_ _ | refine blk_drew ?_ | refine blk_alloc ?_ _)); refine blk_put (cs := #[.int .i64 t196, .int .i64 t197, .slice none 0 0, .slice none 0 0, .int .i64 0, .int .i64 0]) ?_ 2 _ rfl; (with_reducible repeat (first | refine blk_drewN ?_ _ | refine blk_drew ?_ | refine blk_alloc ?_ _)); refine blk_put (cs := #[.int .i64 t196, .int .i64 0, .slice none 0 0, .slice none 0 0, .int .i64 0, .int .i64 0]) ?_ 1 _ rfl; (with_reducible repeat (first | refine blk_drewN ?_ _ | refine blk_drew ?_ | refine blk_alloc ?_ _)); refine blk_put (cs := #[.int .i64 0, .int .i64 0, .slice none 0 0, .slice none 0 0, .int .i64 0, .int .i64 0]) ?_ 0 _ rfl; (with_reducible repeat (first | refine blk_drewN ?_ _ | refine blk_drew ?_ | refine blk_alloc ?_ _)); refine blk_far ?_ NB195_194.out _; (with_reducible repeat (first | refine blk_drewN ?_ _ | refine blk_drew ?_ | refine blk_alloc ?_ _)); exact BK195.out) Try.underlying47 rfl (by kernel_rfl)) rfl ?_
          exact ⟨_, _, by first | rfl | (simp [errW_none, errW_some] <;> rfl) | (simp [*, errW_none, errW_some] <;> rfl), by (with_reducible repeat (first | apply Kd.R_alloc | apply Kd.R_drewN | apply Kd.R_drew)); exact Kd.R_mono (Kd.R_far (p := ⟨gb195, 5, none⟩) (Kd.R_far (p := ⟨gb195, 4, none⟩) (Kd.R_far (p := ⟨gb195, 3, none⟩) (Kd.R_far (p := ⟨gb195, 2, none⟩) (Kd.R_far (p := ⟨gb195, 1, none⟩) (Kd.R_far (p := ⟨gb195, 0, none⟩) (Kd.R_far (p := ⟨gb194, 3, none⟩) (Kd.R_types (Kd.R_types HO_195002.out BK194.out (by decide)) BK195.out (by decide)) (fun _ hk => hk.1.2) (.slice none 0 0)) (fun _ hk => hk.2) (.int .i64 t196)) (fun _ hk => hk.2) (.int .i64 t197)) (fun _ hk => hk.2) (.slice Ao27 x195002_1.length co27)) (fun _ hk => hk.2) (.slice none 0 0)) (fun _ hk => hk.2) (.int .i64 t204)) (fun _ hk => hk.2) (.int .i64 t205)) (fun _ hk => hk.1.1), by first | exact Kd.R_nil _ _ _ _ _ | exact Kd.N_nil _ _ _ _ _ | exact Kd.V_nil _ _ _ _ _ | exact Kd.Q_nil _ _ _ _ _ | exact Kd.S_nil _ _ _ _ _, by repeat (first | (with_reducible first | exact HB.out | apply below_alloc | apply pw_below_drewN | apply below_drew1 | refine below_set ?_ GE194.out | refine below_set ?_ GE195.out) | exact HB.out), by repeat (first | (with_reducible first | exact HK.out | apply Kept.alloc | apply Kept.drewN | apply Kept.drew | refine Kept.setCell ?_ (.inr GW194.out) _ | refine Kept.setCell ?_ (.inr GW195.out) _) | exact HK.out)⟩
  · rw [if_neg c3] at H
    have c3b0 : (t206 == 0) = false := beq_eq_false_iff_ne.mpr c3
    have c3b1 : (t206 != 0) = true := bne_iff_ne.mpr c3
    simp only [Option.some.injEq, Prod.mk.injEq] at H
    obtain ⟨rfl, rfl, rfl, rfl, rfl, rfl, rfl⟩ := H
    obtain ⟨Ao28, co28, eo28⟩ := Kd.R_slice HO0_2.out
    subst eo28
    obtain ⟨Ao29, co29, eo29⟩ := Kd.R_slice HO0_3.out
    subst eo29
    go_enter Try.func33, Try.ntmps33
    go_wp2_with (first | ((with_reducible refine gate_dst (N := 1) rfl ?_); refine box_event ?hg (N := 1) ?hd (cs := #[.int .i64 a0_0, .int .i64 a0_1, .slice Ao28 l0_2.length co28, .slice Ao29 l0_3.length co29, .int .i64 a0_4, .int .i64 a0_5]) (t := 47) ?hr ?_; (case hd => rfl); (case hg => rfl); (case hr => first | (go_simp; done) | (go_simp; rfl)); intro gb194 hg w30 hbox hb; have n0_ := Aside0.mk (Kd.R_below (by (with_reducible repeat (first | apply Kd.R_alloc | apply Kd.R_drewN | apply Kd.R_drew)); exact HO0_2.out) hb); have n1_ := Aside0.mk (Kd.R_below (by (with_reducible repeat (first | apply Kd.R_alloc | apply Kd.R_drewN | apply Kd.R_drew)); exact HO0_3.out) hb); have n2_ := Aside0.mk (Kept.below (S := (fun k_ => P0_2_ k_ ∨ P0_3_ k_)) (by repeat (first | (with_reducible first | exact HK.out | apply Kept.alloc | apply Kept.drewN | apply Kept.drew) | exact HK.out)) hb); have n3_ := Aside0.mk (below_step (by repeat (first | (with_reducible first | exact HB.out | apply below_alloc | apply pw_below_drewN | apply below_drew1) | exact HB.out)) hb); have n4_ := Aside0.mk (hbox); have n5_ := Aside0.mk ((by rw [hg]; exact (by first | exact HK.out.1 | exact (show Kept w _ (fun k_ => P0_2_ k_ ∨ P0_3_ k_) from by repeat (first | (with_reducible first | exact HK.out | apply Kept.alloc | apply Kept.drewN | apply Kept.drew) | exact HK.out)).1) : w.heap.size ≤ gb194)); have n6_ := Aside0.mk ((by rw [hg]; exact (below_size (by repeat (first | (with_reducible first | exact HB.out | apply below_alloc | apply pw_below_drewN | apply below_drew1) | exact HB.out))) : w0.heap.size ≤ gb194)); clear HO0_2; clear HO0_3; clear HK; clear HB; have HO0_2 := n0_; have HO0_3 := n1_; have HK := n2_; have HB := n3_; have BK194 := n4_; have GW194 := n5_; have GE194 := n6_; clear n0_ n1_ n2_ n3_ n4_ n5_ n6_; clear hb hbox hg) | ((with_reducible refine gate_dst (N := 2) rfl ?_); refine box_event ?hg (N := 2) ?hd (cs := #[.int .i64 0, .int .i64 0, .slice none 0 0, .slice none 0 0, .int .i64 0, .int .i64 0]) (t := 47) ?hr ?_; (case hd => rfl); (case hg => rfl); (case hr => first | (go_simp; done) | (go_simp; rfl)); intro gb195 hg w31 hbox hb; have n0_ := Aside0.mk (Kd.R_below (by (with_reducible repeat (first | apply Kd.R_alloc | apply Kd.R_drewN | apply Kd.R_drew)); exact HO0_2.out) hb); have n1_ := Aside0.mk (Kd.R_below (by (with_reducible repeat (first | apply Kd.R_alloc | apply Kd.R_drewN | apply Kd.R_drew)); exact HO0_3.out) hb); have n2_ := Aside0.mk (blk_below (g := gb194) (o := .cells #[.int .i64 a0_0, .int .i64 a0_1, .slice Ao28 l0_2.length co28, .slice Ao29 l0_3.length co29, .int .i64 a0_4, .int .i64 a0_5] 47 (0, 0)) (by (with_reducible repeat (first | refine blk_drewN ?_ _ | refine blk_drew ?_ | refine blk_alloc ?_ _)); exact BK194.out) hb); have n3_ := Aside0.mk (Kept.below (S := (fun k_ => P0_2_ k_ ∨ P0_3_ k_)) (by repeat (first | (with_reducible first | exact HK.out | apply Kept.alloc | apply Kept.drewN | apply Kept.drew | refine Kept.setCell ?_ (.inr GW194.out) _) | exact HK.out)) hb); have n4_ := Aside0.mk (below_step (by repeat (first | (with_reducible first | exact HB.out | apply below_alloc | apply pw_below_drewN | apply below_drew1 | refine below_set ?_ GE194.out) | exact HB.out)) hb); have n5_ := Aside0.mk (hbox); have n6_ := Aside0.mk ((by rw [hg]; exact (by first | exact HK.out.1 | exact (show Kept w _ (fun k_ => P0_2_ k_ ∨ P0_3_ k_) from by repeat (first | (with_reducible first | exact HK.out | apply Kept.alloc | apply Kept.drewN | apply Kept.drew | refine Kept.setCell ?_ (.inr GW194.out) _) | exact HK.out)).1) : w.heap.size ≤ gb195)); have n7_ := Aside0.mk ((by rw [hg]; exact (below_size (by repeat (first | (with_reducible first | exact HB.out | apply below_alloc | apply pw_below_drewN | apply below_drew1 | refine below_set ?_ GE194.out) | exact HB.out))) : w0.heap.size ≤ gb195)); have n8_ := Aside0.mk ((by rw [hg]; exact Nat.ne_of_lt (blk_lt (g := gb194) (o := .cells #[.int .i64 a0_0, .int .i64 a0_1, .slice Ao28 l0_2.length co28, .slice Ao29 l0_3.length co29, .int .i64 a0_4, .int .i64 a0_5] 47 (0, 0)) (by (with_reducible repeat (first | refine blk_drewN ?_ _ | refine blk_drew ?_ | refine blk_alloc ?_ _)); exact BK194.out)) : gb194 ≠ gb195)); have n9_ := Aside0.mk ((by rw [hg]; exact Nat.ne_of_gt (blk_lt (g := gb194) (o := .cells #[.int .i64 a0_0, .int .i64 a0_1, .slice Ao28 l0_2.length co28, .slice Ao29 l0_3.length co29, .int .i64 a0_4, .int .i64 a0_5] 47 (0, 0)) (by (with_reducible repeat (first | refine blk_drewN ?_ _ | refine blk_drew ?_ | refine blk_alloc ?_ _)); exact BK194.out)) : gb195 ≠ gb194)); clear HO0_2; clear HO0_3; clear BK194; clear HK; clear HB; have HO0_2 := n0_; have HO0_3 := n1_; have BK194 := n2_; have HK := n3_; have HB := n4_; have BK195 := n5_; have GW195 := n6_; have GE195 := n7_; have NB194_195 := n8_; have NB195_194 := n9_; clear n0_ n1_ n2_ n3_ n4_ n5_ n6_ n7_ n8_ n9_; clear hb hbox hg; have hnb32 := NB194_195.out; have hnc32 := NB195_194.out; have hcz33_0 : w31.cell? ⟨gb194, 0, none⟩ = some (.int .i64 a0_0) := (blk_cell BK194.out 0).trans rfl; have hcz33_1 : w31.cell? ⟨gb194, 1, none⟩ = some (.int .i64 a0_1) := (blk_cell BK194.out 1).trans rfl; have hcz33_2 : w31.cell? ⟨gb194, 2, none⟩ = some (.slice Ao28 l0_2.length co28) := (blk_cell BK194.out 2).trans rfl; have hcz33_3 : w31.cell? ⟨gb194, 3, none⟩ = some (.slice Ao29 l0_3.length co29) := (blk_cell BK194.out 3).trans rfl; have hcz33_4 : w31.cell? ⟨gb194, 4, none⟩ = some (.int .i64 a0_4) := (blk_cell BK194.out 4).trans rfl; have hcz33_5 : w31.cell? ⟨gb194, 5, none⟩ = some (.int .i64 a0_5) := (blk_cell BK194.out 5).trans rfl; have hfz33_0 := blk_frozen BK194.out 0; have hfz33_1 := blk_frozen BK194.out 1; have hfz33_2 := blk_frozen BK194.out 2; have hfz33_3 := blk_frozen BK194.out 3; have hfz33_4 := blk_frozen BK194.out 4; have hfz33_5 := blk_frozen BK194.out 5) | ((with_reducible refine gate_callee (f := 61) rfl ?_); refine goesL_ (some 8) rfl rfl Try.func61 (by kernel_rfl) rfl #[.agg #[.int .i64 a0_0, .int .i64 a0_1, .slice Ao28 l0_2.length co28, .slice Ao29 l0_3.length co29, .int .i64 a0_4, .int .i64 a0_5]] rfl (by (try simp only [List.map_toArray, List.map_cons, List.map_nil]); first | done | rfl | (simp only [List.length_drop, List.length_take]; rfl)) ?_; (with_reducible refine (rubricatorref03_count.calls a0_0 a0_1 (fun k_ => some k_ = (.slice Ao28 l0_2.length co28 : Value).ownBlock) (.slice Ao28 l0_2.length co28) l0_2 (fun k_ => some k_ = (.slice Ao29 l0_3.length co29 : Value).ownBlock) (.slice Ao29 l0_3.length co29) l0_3 a0_4 a0_5 t196 t197 t198 t201 t204 t205 t206 w0 _ ?side1 ?side2 ?side3 A2.out).mono ?_); (case side1 => repeat (first | (with_reducible first | exact HB.out | apply below_alloc | apply pw_below_drewN | apply below_drew1 | refine below_set ?_ GE194.out | refine below_set ?_ GE195.out) | exact HB.out)); (case side2 => exact Kd.R_tight rfl HO0_2.out); (case side3 => exact Kd.R_tight rfl HO0_3.out); rintro e w34 ⟨v199, v202, rfl, ho0, ho1, hb, hkp⟩; refine ⟨_, rfl, ?_⟩; have n0_ := Aside0.mk (blk_kept (by (with_reducible repeat (first | refine blk_drewN ?_ _ | refine blk_drew ?_ | refine blk_alloc ?_ _)); exact BK194.out) hkp (fun hs_ => Or.elim hs_ (fun e_ => (fun e_ => (Kd.R_ne HO0_2.out BK194.out (by decide)) e_) e_) (fun e_ => (fun e_ => (Kd.R_ne HO0_3.out BK194.out (by decide)) e_) e_))); have n1_ := Aside0.mk (blk_kept (by (with_reducible repeat (first | refine blk_drewN ?_ _ | refine blk_drew ?_ | refine blk_alloc ?_ _)); exact BK195.out) hkp (fun hs_ => Or.elim hs_ (fun e_ => (fun e_ => (Kd.R_ne HO0_2.out BK195.out (by decide)) e_) e_) (fun e_ => (fun e_ => (Kd.R_ne HO0_3.out BK195.out (by decide)) e_) e_))); have n2_ := Aside0.mk (Kd.R_mono (ok' := fun k_ => ((P0_2_ k_ ∨ P0_3_ k_) ∨ w.heap.size ≤ k_)) ho0 (fun k_ hk_ => Or.elim hk_ (fun hs_ => Or.elim hs_ (fun hs_ => (HO0_2.out.1 k_ (hs_).symm)) (fun hs_ => (HO0_3.out.1 k_ (hs_).symm))) (fun hn_ => (.inr (Nat.le_trans (by first | exact HK.out.1 | exact (show Kept w _ (fun k_ => P0_2_ k_ ∨ P0_3_ k_) from by repeat (first | (with_reducible first | exact HK.out | apply Kept.alloc | apply Kept.drewN | apply Kept.drew | refine Kept.setCell ?_ (.inr GW194.out) _ | refine Kept.setCell ?_ (.inr GW195.out) _) | exact HK.out)).1) hn_))))); have n3_ := Aside0.mk (Kd.R_mono (ok' := fun k_ => ((P0_2_ k_ ∨ P0_3_ k_) ∨ w.heap.size ≤ k_)) ho1 (fun k_ hk_ => Or.elim hk_ (fun hs_ => Or.elim hs_ (fun hs_ => (HO0_2.out.1 k_ (hs_).symm)) (fun hs_ => (HO0_3.out.1 k_ (hs_).symm))) (fun hn_ => (.inr (Nat.le_trans (by first | exact HK.out.1 | exact (show Kept w _ (fun k_ => P0_2_ k_ ∨ P0_3_ k_) from by repeat (first | (with_reducible first | exact HK.out | apply Kept.alloc | apply Kept.drewN | apply Kept.drew | refine Kept.setCell ?_ (.inr GW194.out) _ | refine Kept.setCell ?_ (.inr GW195.out) _) | exact HK.out)).1) hn_))))); have n4_ := Aside0.mk (Kept.then_ (S := (fun k_ => P0_2_ k_ ∨ P0_3_ k_)) (by repeat (first | (with_reducible first | exact HK.out | apply Kept.alloc | apply Kept.drewN | apply Kept.drew | refine Kept.setCell ?_ (.inr GW194.out) _ | refine Kept.setCell ?_ (.inr GW195.out) _) | exact HK.out)) hkp (fun k_ hs_ => Or.elim hs_ (fun e_ => (fun e_ => (HO0_2.out.1 k_ e_.symm)) e_) (fun e_ => (fun e_ => (HO0_3.out.1 k_ e_.symm)) e_))); have n5_ := Aside0.mk (hb); clear BK194; clear BK195; clear HK; clear HB; clear HO0_2; clear HO0_3; have BK194 := n0_; have BK195 := n1_; have HO200 := n2_; have HO203 := n3_; have HK := n4_; have HB := n5_; clear n0_ n1_ n2_ n3_ n4_ n5_; (try clear hb); (try clear hkp); (try clear ho0); (try clear ho1); have hcz35_0 : w34.cell? ⟨gb194, 0, none⟩ = some (.int .i64 a0_0) := (blk_cell BK194.out 0).trans rfl; have hcz35_1 : w34.cell? ⟨gb194, 1, none⟩ = some (.int .i64 a0_1) := (blk_cell BK194.out 1).trans rfl; have hcz35_2 : w34.cell? ⟨gb194, 2, none⟩ = some (.slice Ao28 l0_2.length co28) := (blk_cell BK194.out 2).trans rfl; have hcz35_3 : w34.cell? ⟨gb194, 3, none⟩ = some (.slice Ao29 l0_3.length co29) := (blk_cell BK194.out 3).trans rfl; have hcz35_4 : w34.cell? ⟨gb194, 4, none⟩ = some (.int .i64 a0_4) := (blk_cell BK194.out 4).trans rfl; have hcz35_5 : w34.cell? ⟨gb194, 5, none⟩ = some (.int .i64 a0_5) := (blk_cell BK194.out 5).trans rfl; have hfz35_0 := blk_frozen BK194.out 0; have hfz35_1 := blk_frozen BK194.out 1; have hfz35_2 := blk_frozen BK194.out 2; have hfz35_3 := blk_frozen BK194.out 3; have hfz35_4 := blk_frozen BK194.out 4; have hfz35_5 := blk_frozen BK194.out 5; obtain ⟨Ao36, co36, eo36⟩ := Kd.R_slice HO200.out; subst eo36; obtain ⟨Ao37, co37, eo37⟩ := Kd.R_slice HO203.out; subst eo37; have hcz38_0 : w34.cell? ⟨gb195, 0, none⟩ = some (.int .i64 0) := (blk_cell BK195.out 0).trans rfl; have hcz38_1 : w34.cell? ⟨gb195, 1, none⟩ = some (.int .i64 0) := (blk_cell BK195.out 1).trans rfl; have hcz38_2 : w34.cell? ⟨gb195, 2, none⟩ = some (.slice none 0 0) := (blk_cell BK195.out 2).trans rfl; have hcz38_3 : w34.cell? ⟨gb195, 3, none⟩ = some (.slice none 0 0) := (blk_cell BK195.out 3).trans rfl; have hcz38_4 : w34.cell? ⟨gb195, 4, none⟩ = some (.int .i64 0) := (blk_cell BK195.out 4).trans rfl; have hcz38_5 : w34.cell? ⟨gb195, 5, none⟩ = some (.int .i64 0) := (blk_cell BK195.out 5).trans rfl; have hfz38_0 := blk_frozen BK195.out 0; have hfz38_1 := blk_frozen BK195.out 1; have hfz38_2 := blk_frozen BK195.out 2; have hfz38_3 := blk_frozen BK195.out 3; have hfz38_4 := blk_frozen BK195.out 4; have hfz38_5 := blk_frozen BK195.out 5))
    refine bodyPost_ret (results_ct rfl _ _ gb195 47 #[.int .i64 t196, .int .i64 t197, .slice Ao36 t198.length co36, .slice Ao37 t201.length co37, .int .i64 t204, .int .i64 t205] (0, 0) _ rfl (by (with_reducible repeat (first | refine blk_drewN ?_ _ | refine blk_drew ?_ | refine blk_alloc ?_ _)); refine blk_put (cs := #[.int .i64 t196, .int .i64 t197, .slice Ao36 t198.length co36, .slice Ao37 t201.length co37, .int .i64 t204, .int .i64 0]) ?_ 5 _ rfl; (with_reducible repeat (first | refine blk_drewN ?_ _ | refine blk_drew ?_ | refine blk_alloc ?_ _)); refine blk_put (cs := #[.int .i64 t196, .int .i64 t197, .slice Ao36 t198.length co36, .slice Ao37 t201.length co37, .int .i64 0, .int .i64 0]) ?_ 4 _ rfl; (with_reducible repeat (first | refine blk_drewN ?_ _ | refine blk_drew ?_ | refine blk_alloc ?_ _)); refine blk_put (cs := #[.int .i64 t196, .int .i64 t197, .slice Ao36 t198.length co36, .slice none 0 0, .int .i64 0, .int .i64 0]) ?_ 3 _ rfl; (with_reducible repeat (first | refine blk_drewN ?_ _ | refine blk_drew ?_ | refine blk_alloc ?_ _)); refine blk_put (cs := #[.int .i64 t196, .int .i64 t197, .slice none 0 0, .slice none 0 0, .int .i64 0, .int .i64 0]) ?_ 2 _ rfl; (with_reducible repeat (first | refine blk_drewN ?_ _ | refine blk_drew ?_ | refine blk_alloc ?_ _)); refine blk_put (cs := #[.int .i64 t196, .int .i64 0, .slice none 0 0, .slice none 0 0, .int .i64 0, .int .i64 0]) ?_ 1 _ rfl; (with_reducible repeat (first | refine blk_drewN ?_ _ | refine blk_drew ?_ | refine blk_alloc ?_ _)); refine blk_put (cs := #[.int .i64 0, .int .i64 0, .slice none 0 0, .slice none 0 0, .int .i64 0, .int .i64 0]) ?_ 0 _ rfl; (with_reducible repeat (first | refine blk_drewN ?_ _ | refine blk_drew ?_ | refine blk_alloc ?_ _)); refine blk_far ?_ NB195_194.out _; (with_reducible repeat (first | refine blk_drewN ?_ _ | refine blk_drew ?_ | refine blk_alloc ?_ _)); refine blk_far ?_ NB195_194.out _; (with_reducible repeat (first | refine blk_drewN ?_ _ | refine blk_drew ?_ | refine blk_alloc ?_ _)); refine blk_far ?_ NB195_194.out _; (with_reducible repeat (first | refine blk_drewN ?_ _ | refine blk_drew ?_ | refine blk_alloc ?_ _)); refine blk_far ?_ NB195_194.out _; (with_reducible repeat (first | refine blk_drewN ?_ _ | refine blk_drew ?_ | refine blk_alloc ?_ _)); refine blk_far ?_ NB195_194.out _; (with_reducible repeat (first | refine blk_drewN ?_ _ | refine blk_drew ?_ | refine blk_alloc ?_ _)); refine blk_far ?_ NB195_194.out _; (with_reducible repeat (first | refine blk_drewN ?_ _ | refine blk_drew ?_ | refine blk_alloc ?_ _)); exact BK195.out) Try.underlying47 rfl (by kernel_rfl)) rfl ?_
    exact ⟨_, _, by first | rfl | (simp [errW_none, errW_some] <;> rfl) | (simp [*, errW_none, errW_some] <;> rfl), by (with_reducible repeat (first | apply Kd.R_alloc | apply Kd.R_drewN | apply Kd.R_drew)); exact Kd.R_mono (Kd.R_far (p := ⟨gb195, 5, none⟩) (Kd.R_far (p := ⟨gb195, 4, none⟩) (Kd.R_far (p := ⟨gb195, 3, none⟩) (Kd.R_far (p := ⟨gb195, 2, none⟩) (Kd.R_far (p := ⟨gb195, 1, none⟩) (Kd.R_far (p := ⟨gb195, 0, none⟩) (Kd.R_far (p := ⟨gb194, 5, none⟩) (Kd.R_far (p := ⟨gb194, 4, none⟩) (Kd.R_far (p := ⟨gb194, 3, none⟩) (Kd.R_far (p := ⟨gb194, 2, none⟩) (Kd.R_far (p := ⟨gb194, 1, none⟩) (Kd.R_far (p := ⟨gb194, 0, none⟩) (Kd.R_types (Kd.R_types HO200.out BK194.out (by decide)) BK195.out (by decide)) (fun _ hk => hk.1.2) (.int .i64 t196)) (fun _ hk => hk.1.2) (.int .i64 t197)) (fun _ hk => hk.1.2) (.slice Ao36 t198.length co36)) (fun _ hk => hk.1.2) (.slice Ao37 t201.length co37)) (fun _ hk => hk.1.2) (.int .i64 t204)) (fun _ hk => hk.1.2) (.int .i64 t205)) (fun _ hk => hk.2) (.int .i64 t196)) (fun _ hk => hk.2) (.int .i64 t197)) (fun _ hk => hk.2) (.slice Ao36 t198.length co36)) (fun _ hk => hk.2) (.slice Ao37 t201.length co37)) (fun _ hk => hk.2) (.int .i64 t204)) (fun _ hk => hk.2) (.int .i64 t205)) (fun _ hk => hk.1.1), by (with_reducible repeat (first | apply Kd.R_alloc | apply Kd.R_drewN | apply Kd.R_drew)); exact Kd.R_mono (Kd.R_far (p := ⟨gb195, 5, none⟩) (Kd.R_far (p := ⟨gb195, 4, none⟩) (Kd.R_far (p := ⟨gb195, 3, none⟩) (Kd.R_far (p := ⟨gb195, 2, none⟩) (Kd.R_far (p := ⟨gb195, 1, none⟩) (Kd.R_far (p := ⟨gb195, 0, none⟩) (Kd.R_far (p := ⟨gb194, 5, none⟩) (Kd.R_far (p := ⟨gb194, 4, none⟩) (Kd.R_far (p := ⟨gb194, 3, none⟩) (Kd.R_far (p := ⟨gb194, 2, none⟩) (Kd.R_far (p := ⟨gb194, 1, none⟩) (Kd.R_far (p := ⟨gb194, 0, none⟩) (Kd.R_types (Kd.R_types HO203.out BK194.out (by decide)) BK195.out (by decide)) (fun _ hk => hk.1.2) (.int .i64 t196)) (fun _ hk => hk.1.2) (.int .i64 t197)) (fun _ hk => hk.1.2) (.slice Ao36 t198.length co36)) (fun _ hk => hk.1.2) (.slice Ao37 t201.length co37)) (fun _ hk => hk.1.2) (.int .i64 t204)) (fun _ hk => hk.1.2) (.int .i64 t205)) (fun _ hk => hk.2) (.int .i64 t196)) (fun _ hk => hk.2) (.int .i64 t197)) (fun _ hk => hk.2) (.slice Ao36 t198.length co36)) (fun _ hk => hk.2) (.slice Ao37 t201.length co37)) (fun _ hk => hk.2) (.int .i64 t204)) (fun _ hk => hk.2) (.int .i64 t205)) (fun _ hk => hk.1.1), by repeat (first | (with_reducible first | exact HB.out | apply below_alloc | apply pw_below_drewN | apply below_drew1 | refine below_set ?_ GE194.out | refine below_set ?_ GE195.out) | exact HB.out), by repeat (first | (with_reducible first | exact HK.out | apply Kept.alloc | apply Kept.drewN | apply Kept.drew | refine Kept.setCell ?_ (.inr GW194.out) _ | refine Kept.setCell ?_ (.inr GW195.out) _) | exact HK.out)⟩

/-! ### rubricatorref03_Fail: function 34 -/
def rubricatorref03_Fail.f (a0_0 : Int) (a0_1 : Int) (l0_2 : List ByteArray) (l0_3 : List (S135)) (a0_4 : Int) (a0_5 : Int) (a1 : Int) : Option (Int × Int × List ByteArray × (List (S135)) × Int × Int) := if a1 < 0 then (some (a0_0, a0_1, l0_2, l0_3, (-1), a0_5)) else (some (a0_0, a0_1, l0_2, l0_3, a1, a0_5))
set_option maxHeartbeats 8000000 in
set_option maxRecDepth 100000 in
theorem rubricatorref03_Fail.calls (a0_0 : Int) (a0_1 : Int) (P0_2_ : Nat → Prop) (u9000_ : Value) (l0_2 : List ByteArray) (P0_3_ : Nat → Prop) (u9001_ : Value) (l0_3 : List (S135)) (a0_4 : Int) (a0_5 : Int) (a1 : Int) (r1 : Int) (r2 : Int) (r3 : List ByteArray) (r4 : List (S135)) (r5 : Int) (r6 : Int) (w0 w : World) (hB : Below w0.heap.size w0 w) (ho0_2 : Kd.R Kd.string 9 w w0.heap.size P0_2_ u9000_ l0_2) (ho0_3 : Kd.R k135 135 w w0.heap.size P0_3_ u9001_ l0_3) (h : rubricatorref03_Fail.f a0_0 a0_1 l0_2 l0_3 a0_4 a0_5 a1 = some (r1, r2, r3, r4, r5, r6)) :
    Calls Try.prog 34 #[.agg #[.int .i64 a0_0, .int .i64 a0_1, u9000_, u9001_, .int .i64 a0_4, .int .i64 a0_5], .int .i64 a1] w fun e w' => ∃ v2_ v3_ : Value, e = .returned (.agg #[.int .i64 r1, .int .i64 r2, v2_, v3_, .int .i64 r5, .int .i64 r6]) ∧ Kd.R Kd.string 9 w' w0.heap.size (fun k_ => ((P0_2_ k_ ∨ P0_3_ k_) ∨ w.heap.size ≤ k_)) v2_ r3 ∧ Kd.R k135 135 w' w0.heap.size (fun k_ => ((P0_2_ k_ ∨ P0_3_ k_) ∨ w.heap.size ≤ k_)) v3_ r4 ∧ Below w0.heap.size w0 w' ∧ Kept w w' (fun k_ => P0_2_ k_ ∨ P0_3_ k_) := by
  have hu47 := Try.underlying47
  have HO0_2 := Aside0.mk (show Kd.R Kd.string 9 w w0.heap.size (fun k_ => ((P0_2_ k_ ∨ P0_3_ k_) ∨ w.heap.size ≤ k_)) u9000_ l0_2 from Kd.R_mono ho0_2 (fun k_ hk => (.inl (.inl hk))))
  have HO0_3 := Aside0.mk (show Kd.R k135 135 w w0.heap.size (fun k_ => ((P0_2_ k_ ∨ P0_3_ k_) ∨ w.heap.size ≤ k_)) u9001_ l0_3 from Kd.R_mono ho0_3 (fun k_ hk => (.inl (.inr hk))))
  have HK := Aside0.mk (Kept.refl w (fun k_ => P0_2_ k_ ∨ P0_3_ k_))
  have HW0 := Aside0.mk hB.size
  have HB := Aside0.mk hB
  clear hB
  have H : (if a1 < 0 then (some (a0_0, a0_1, l0_2, l0_3, (-1), a0_5)) else (some (a0_0, a0_1, l0_2, l0_3, a1, a0_5))) = some (r1, r2, r3, r4, r5, r6) := h
  clear h
  by_cases c3 : a1 < 0
  · rw [if_pos c3] at H
    have c3b0 : decide (a1 < 0) = true := decide_eq_true c3
    clear c3
    simp only [Option.some.injEq, Prod.mk.injEq] at H
    obtain ⟨rfl, rfl, rfl, rfl, rfl, rfl⟩ := H
    obtain ⟨Ao4, co4, eo4⟩ := Kd.R_slice HO0_2.out
    subst eo4
    obtain ⟨Ao5, co5, eo5⟩ := Kd.R_slice HO0_3.out
    subst eo5
    go_enter Try.func34, Try.ntmps34
    go_wp2_with (first | ((with_reducible refine gate_dst (N := 2) rfl ?_); refine box_event ?hg (N := 2) ?hd (cs := #[.int .i64 a0_0, .int .i64 a0_1, .slice Ao4 l0_2.length co4, .slice Ao5 l0_3.length co5, .int .i64 a0_4, .int .i64 a0_5]) (t := 47) ?hr ?_; (case hd => rfl); (case hg => rfl); (case hr => first | (go_simp; done) | (go_simp; rfl)); intro gb212 hg w6 hbox hb; have n0_ := Aside0.mk (Kd.R_below (by (with_reducible repeat (first | apply Kd.R_alloc | apply Kd.R_drewN | apply Kd.R_drew)); exact HO0_2.out) hb); have n1_ := Aside0.mk (Kd.R_below (by (with_reducible repeat (first | apply Kd.R_alloc | apply Kd.R_drewN | apply Kd.R_drew)); exact HO0_3.out) hb); have n2_ := Aside0.mk (Kept.below (S := (fun k_ => P0_2_ k_ ∨ P0_3_ k_)) (by repeat (first | (with_reducible first | exact HK.out | apply Kept.alloc | apply Kept.drewN | apply Kept.drew) | exact HK.out)) hb); have n3_ := Aside0.mk (below_step (by repeat (first | (with_reducible first | exact HB.out | apply below_alloc | apply pw_below_drewN | apply below_drew1) | exact HB.out)) hb); have n4_ := Aside0.mk (hbox); have n5_ := Aside0.mk ((by rw [hg]; exact (by first | exact HK.out.1 | exact (show Kept w _ (fun k_ => P0_2_ k_ ∨ P0_3_ k_) from by repeat (first | (with_reducible first | exact HK.out | apply Kept.alloc | apply Kept.drewN | apply Kept.drew) | exact HK.out)).1) : w.heap.size ≤ gb212)); have n6_ := Aside0.mk ((by rw [hg]; exact (below_size (by repeat (first | (with_reducible first | exact HB.out | apply below_alloc | apply pw_below_drewN | apply below_drew1) | exact HB.out))) : w0.heap.size ≤ gb212)); clear HO0_2; clear HO0_3; clear HK; clear HB; have HO0_2 := n0_; have HO0_3 := n1_; have HK := n2_; have HB := n3_; have BK212 := n4_; have GW212 := n5_; have GE212 := n6_; clear n0_ n1_ n2_ n3_ n4_ n5_ n6_; clear hb hbox hg) | ((with_reducible refine gate_dst (N := 4) rfl ?_); refine box_event ?hg (N := 4) ?hd (cs := #[.int .i64 0, .int .i64 0, .slice none 0 0, .slice none 0 0, .int .i64 0, .int .i64 0]) (t := 47) ?hr ?_; (case hd => rfl); (case hg => rfl); (case hr => first | (go_simp; done) | (go_simp; rfl)); intro gb213 hg w7 hbox hb; have n0_ := Aside0.mk (Kd.R_below (by (with_reducible repeat (first | apply Kd.R_alloc | apply Kd.R_drewN | apply Kd.R_drew)); exact HO0_2.out) hb); have n1_ := Aside0.mk (Kd.R_below (by (with_reducible repeat (first | apply Kd.R_alloc | apply Kd.R_drewN | apply Kd.R_drew)); exact HO0_3.out) hb); have n2_ := Aside0.mk (blk_below (g := gb212) (o := .cells #[.int .i64 a0_0, .int .i64 a0_1, .slice Ao4 l0_2.length co4, .slice Ao5 l0_3.length co5, .int .i64 a0_4, .int .i64 a0_5] 47 (0, 0)) (by (with_reducible repeat (first | refine blk_drewN ?_ _ | refine blk_drew ?_ | refine blk_alloc ?_ _)); exact BK212.out) hb); have n3_ := Aside0.mk (Kept.below (S := (fun k_ => P0_2_ k_ ∨ P0_3_ k_)) (by repeat (first | (with_reducible first | exact HK.out | apply Kept.alloc | apply Kept.drewN | apply Kept.drew | refine Kept.setCell ?_ (.inr GW212.out) _) | exact HK.out)) hb); have n4_ := Aside0.mk (below_step (by repeat (first | (with_reducible first | exact HB.out | apply below_alloc | apply pw_below_drewN | apply below_drew1 | refine below_set ?_ GE212.out) | exact HB.out)) hb); have n5_ := Aside0.mk (hbox); have n6_ := Aside0.mk ((by rw [hg]; exact (by first | exact HK.out.1 | exact (show Kept w _ (fun k_ => P0_2_ k_ ∨ P0_3_ k_) from by repeat (first | (with_reducible first | exact HK.out | apply Kept.alloc | apply Kept.drewN | apply Kept.drew | refine Kept.setCell ?_ (.inr GW212.out) _) | exact HK.out)).1) : w.heap.size ≤ gb213)); have n7_ := Aside0.mk ((by rw [hg]; exact (below_size (by repeat (first | (with_reducible first | exact HB.out | apply below_alloc | apply pw_below_drewN | apply below_drew1 | refine below_set ?_ GE212.out) | exact HB.out))) : w0.heap.size ≤ gb213)); have n8_ := Aside0.mk ((by rw [hg]; exact Nat.ne_of_lt (blk_lt (g := gb212) (o := .cells #[.int .i64 a0_0, .int .i64 a0_1, .slice Ao4 l0_2.length co4, .slice Ao5 l0_3.length co5, .int .i64 a0_4, .int .i64 a0_5] 47 (0, 0)) (by (with_reducible repeat (first | refine blk_drewN ?_ _ | refine blk_drew ?_ | refine blk_alloc ?_ _)); exact BK212.out)) : gb212 ≠ gb213)); have n9_ := Aside0.mk ((by rw [hg]; exact Nat.ne_of_gt (blk_lt (g := gb212) (o := .cells #[.int .i64 a0_0, .int .i64 a0_1, .slice Ao4 l0_2.length co4, .slice Ao5 l0_3.length co5, .int .i64 a0_4, .int .i64 a0_5] 47 (0, 0)) (by (with_reducible repeat (first | refine blk_drewN ?_ _ | refine blk_drew ?_ | refine blk_alloc ?_ _)); exact BK212.out)) : gb213 ≠ gb212)); clear HO0_2; clear HO0_3; clear BK212; clear HK; clear HB; have HO0_2 := n0_; have HO0_3 := n1_; have BK212 := n2_; have HK := n3_; have HB := n4_; have BK213 := n5_; have GW213 := n6_; have GE213 := n7_; have NB212_213 := n8_; have NB213_212 := n9_; clear n0_ n1_ n2_ n3_ n4_ n5_ n6_ n7_ n8_ n9_; clear hb hbox hg; have hnb8 := NB212_213.out; have hnc8 := NB213_212.out; have hcz9_0 : w7.cell? ⟨gb212, 0, none⟩ = some (.int .i64 a0_0) := (blk_cell BK212.out 0).trans rfl; have hcz9_1 : w7.cell? ⟨gb212, 1, none⟩ = some (.int .i64 a0_1) := (blk_cell BK212.out 1).trans rfl; have hcz9_2 : w7.cell? ⟨gb212, 2, none⟩ = some (.slice Ao4 l0_2.length co4) := (blk_cell BK212.out 2).trans rfl; have hcz9_3 : w7.cell? ⟨gb212, 3, none⟩ = some (.slice Ao5 l0_3.length co5) := (blk_cell BK212.out 3).trans rfl; have hcz9_4 : w7.cell? ⟨gb212, 4, none⟩ = some (.int .i64 a0_4) := (blk_cell BK212.out 4).trans rfl; have hcz9_5 : w7.cell? ⟨gb212, 5, none⟩ = some (.int .i64 a0_5) := (blk_cell BK212.out 5).trans rfl; have hfz9_0 := blk_frozen BK212.out 0; have hfz9_1 := blk_frozen BK212.out 1; have hfz9_2 := blk_frozen BK212.out 2; have hfz9_3 := blk_frozen BK212.out 3; have hfz9_4 := blk_frozen BK212.out 4; have hfz9_5 := blk_frozen BK212.out 5; have hcz10_0 : w7.cell? ⟨gb213, 0, none⟩ = some (.int .i64 0) := (blk_cell BK213.out 0).trans rfl; have hcz10_1 : w7.cell? ⟨gb213, 1, none⟩ = some (.int .i64 0) := (blk_cell BK213.out 1).trans rfl; have hcz10_2 : w7.cell? ⟨gb213, 2, none⟩ = some (.slice none 0 0) := (blk_cell BK213.out 2).trans rfl; have hcz10_3 : w7.cell? ⟨gb213, 3, none⟩ = some (.slice none 0 0) := (blk_cell BK213.out 3).trans rfl; have hcz10_4 : w7.cell? ⟨gb213, 4, none⟩ = some (.int .i64 0) := (blk_cell BK213.out 4).trans rfl; have hcz10_5 : w7.cell? ⟨gb213, 5, none⟩ = some (.int .i64 0) := (blk_cell BK213.out 5).trans rfl; have hfz10_0 := blk_frozen BK213.out 0; have hfz10_1 := blk_frozen BK213.out 1; have hfz10_2 := blk_frozen BK213.out 2; have hfz10_3 := blk_frozen BK213.out 3; have hfz10_4 := blk_frozen BK213.out 4; have hfz10_5 := blk_frozen BK213.out 5))
    refine bodyPost_ret (results_cell_row rfl _ _ gb213 47 #[.int .i64 a0_0, .int .i64 a0_1, .slice Ao4 l0_2.length co4, .slice Ao5 l0_3.length co5, .int .i64 (-1), .int .i64 a0_5] (0, 0) _ rfl (by (with_reducible repeat (first | refine blk_drewN ?_ _ | refine blk_drew ?_ | refine blk_alloc ?_ _)); refine blk_put (cs := #[.int .i64 a0_0, .int .i64 a0_1, .slice Ao4 l0_2.length co4, .slice Ao5 l0_3.length co5, .int .i64 (-1), .int .i64 0]) ?_ 5 _ rfl; (with_reducible repeat (first | refine blk_drewN ?_ _ | refine blk_drew ?_ | refine blk_alloc ?_ _)); refine blk_put (cs := #[.int .i64 a0_0, .int .i64 a0_1, .slice Ao4 l0_2.length co4, .slice Ao5 l0_3.length co5, .int .i64 0, .int .i64 0]) ?_ 4 _ rfl; (with_reducible repeat (first | refine blk_drewN ?_ _ | refine blk_drew ?_ | refine blk_alloc ?_ _)); refine blk_put (cs := #[.int .i64 a0_0, .int .i64 a0_1, .slice Ao4 l0_2.length co4, .slice none 0 0, .int .i64 0, .int .i64 0]) ?_ 3 _ rfl; (with_reducible repeat (first | refine blk_drewN ?_ _ | refine blk_drew ?_ | refine blk_alloc ?_ _)); refine blk_put (cs := #[.int .i64 a0_0, .int .i64 a0_1, .slice none 0 0, .slice none 0 0, .int .i64 0, .int .i64 0]) ?_ 2 _ rfl; (with_reducible repeat (first | refine blk_drewN ?_ _ | refine blk_drew ?_ | refine blk_alloc ?_ _)); refine blk_put (cs := #[.int .i64 a0_0, .int .i64 0, .slice none 0 0, .slice none 0 0, .int .i64 0, .int .i64 0]) ?_ 1 _ rfl; (with_reducible repeat (first | refine blk_drewN ?_ _ | refine blk_drew ?_ | refine blk_alloc ?_ _)); refine blk_put (cs := #[.int .i64 0, .int .i64 0, .slice none 0 0, .slice none 0 0, .int .i64 0, .int .i64 0]) ?_ 0 _ rfl; (with_reducible repeat (first | refine blk_drewN ?_ _ | refine blk_drew ?_ | refine blk_alloc ?_ _)); refine blk_far ?_ NB213_212.out _; (with_reducible repeat (first | refine blk_drewN ?_ _ | refine blk_drew ?_ | refine blk_alloc ?_ _)); refine blk_far ?_ NB213_212.out _; (with_reducible repeat (first | refine blk_drewN ?_ _ | refine blk_drew ?_ | refine blk_alloc ?_ _)); exact BK213.out) Try.underlying47 rfl (by kernel_rfl)) rfl ?_
    exact ⟨_, _, by first | rfl | (simp [errW_none, errW_some] <;> rfl) | (simp [*, errW_none, errW_some] <;> rfl), by (with_reducible repeat (first | apply Kd.R_alloc | apply Kd.R_drewN | apply Kd.R_drew)); exact Kd.R_mono (Kd.R_far (p := ⟨gb213, 5, none⟩) (Kd.R_far (p := ⟨gb213, 4, none⟩) (Kd.R_far (p := ⟨gb213, 3, none⟩) (Kd.R_far (p := ⟨gb213, 2, none⟩) (Kd.R_far (p := ⟨gb213, 1, none⟩) (Kd.R_far (p := ⟨gb213, 0, none⟩) (Kd.R_far (p := ⟨gb212, 4, none⟩) (Kd.R_far (p := ⟨gb212, 4, none⟩) (Kd.R_types (Kd.R_types HO0_2.out BK212.out (by decide)) BK213.out (by decide)) (fun _ hk => hk.1.2) (.int .i64 a1)) (fun _ hk => hk.1.2) (.int .i64 (-1))) (fun _ hk => hk.2) (.int .i64 a0_0)) (fun _ hk => hk.2) (.int .i64 a0_1)) (fun _ hk => hk.2) (.slice Ao4 l0_2.length co4)) (fun _ hk => hk.2) (.slice Ao5 l0_3.length co5)) (fun _ hk => hk.2) (.int .i64 (-1))) (fun _ hk => hk.2) (.int .i64 a0_5)) (fun _ hk => hk.1.1), by (with_reducible repeat (first | apply Kd.R_alloc | apply Kd.R_drewN | apply Kd.R_drew)); exact Kd.R_mono (Kd.R_far (p := ⟨gb213, 5, none⟩) (Kd.R_far (p := ⟨gb213, 4, none⟩) (Kd.R_far (p := ⟨gb213, 3, none⟩) (Kd.R_far (p := ⟨gb213, 2, none⟩) (Kd.R_far (p := ⟨gb213, 1, none⟩) (Kd.R_far (p := ⟨gb213, 0, none⟩) (Kd.R_far (p := ⟨gb212, 4, none⟩) (Kd.R_far (p := ⟨gb212, 4, none⟩) (Kd.R_types (Kd.R_types HO0_3.out BK212.out (by decide)) BK213.out (by decide)) (fun _ hk => hk.1.2) (.int .i64 a1)) (fun _ hk => hk.1.2) (.int .i64 (-1))) (fun _ hk => hk.2) (.int .i64 a0_0)) (fun _ hk => hk.2) (.int .i64 a0_1)) (fun _ hk => hk.2) (.slice Ao4 l0_2.length co4)) (fun _ hk => hk.2) (.slice Ao5 l0_3.length co5)) (fun _ hk => hk.2) (.int .i64 (-1))) (fun _ hk => hk.2) (.int .i64 a0_5)) (fun _ hk => hk.1.1), by repeat (first | (with_reducible first | exact HB.out | apply below_alloc | apply pw_below_drewN | apply below_drew1 | refine below_set ?_ GE212.out | refine below_set ?_ GE213.out) | exact HB.out), by repeat (first | (with_reducible first | exact HK.out | apply Kept.alloc | apply Kept.drewN | apply Kept.drew | refine Kept.setCell ?_ (.inr GW212.out) _ | refine Kept.setCell ?_ (.inr GW213.out) _) | exact HK.out)⟩
  · rw [if_neg c3] at H
    have c3b0 : decide (a1 < 0) = false := decide_eq_false c3
    clear c3
    simp only [Option.some.injEq, Prod.mk.injEq] at H
    obtain ⟨rfl, rfl, rfl, rfl, rfl, rfl⟩ := H
    obtain ⟨Ao11, co11, eo11⟩ := Kd.R_slice HO0_2.out
    subst eo11
    obtain ⟨Ao12, co12, eo12⟩ := Kd.R_slice HO0_3.out
    subst eo12
    go_enter Try.func34, Try.ntmps34
    go_wp2_with (first | ((with_reducible refine gate_dst (N := 2) rfl ?_); refine box_event ?hg (N := 2) ?hd (cs := #[.int .i64 a0_0, .int .i64 a0_1, .slice Ao11 l0_2.length co11, .slice Ao12 l0_3.length co12, .int .i64 a0_4, .int .i64 a0_5]) (t := 47) ?hr ?_; (case hd => rfl); (case hg => rfl); (case hr => first | (go_simp; done) | (go_simp; rfl)); intro gb212 hg w13 hbox hb; have n0_ := Aside0.mk (Kd.R_below (by (with_reducible repeat (first | apply Kd.R_alloc | apply Kd.R_drewN | apply Kd.R_drew)); exact HO0_2.out) hb); have n1_ := Aside0.mk (Kd.R_below (by (with_reducible repeat (first | apply Kd.R_alloc | apply Kd.R_drewN | apply Kd.R_drew)); exact HO0_3.out) hb); have n2_ := Aside0.mk (Kept.below (S := (fun k_ => P0_2_ k_ ∨ P0_3_ k_)) (by repeat (first | (with_reducible first | exact HK.out | apply Kept.alloc | apply Kept.drewN | apply Kept.drew) | exact HK.out)) hb); have n3_ := Aside0.mk (below_step (by repeat (first | (with_reducible first | exact HB.out | apply below_alloc | apply pw_below_drewN | apply below_drew1) | exact HB.out)) hb); have n4_ := Aside0.mk (hbox); have n5_ := Aside0.mk ((by rw [hg]; exact (by first | exact HK.out.1 | exact (show Kept w _ (fun k_ => P0_2_ k_ ∨ P0_3_ k_) from by repeat (first | (with_reducible first | exact HK.out | apply Kept.alloc | apply Kept.drewN | apply Kept.drew) | exact HK.out)).1) : w.heap.size ≤ gb212)); have n6_ := Aside0.mk ((by rw [hg]; exact (below_size (by repeat (first | (with_reducible first | exact HB.out | apply below_alloc | apply pw_below_drewN | apply below_drew1) | exact HB.out))) : w0.heap.size ≤ gb212)); clear HO0_2; clear HO0_3; clear HK; clear HB; have HO0_2 := n0_; have HO0_3 := n1_; have HK := n2_; have HB := n3_; have BK212 := n4_; have GW212 := n5_; have GE212 := n6_; clear n0_ n1_ n2_ n3_ n4_ n5_ n6_; clear hb hbox hg) | ((with_reducible refine gate_dst (N := 4) rfl ?_); refine box_event ?hg (N := 4) ?hd (cs := #[.int .i64 0, .int .i64 0, .slice none 0 0, .slice none 0 0, .int .i64 0, .int .i64 0]) (t := 47) ?hr ?_; (case hd => rfl); (case hg => rfl); (case hr => first | (go_simp; done) | (go_simp; rfl)); intro gb213 hg w14 hbox hb; have n0_ := Aside0.mk (Kd.R_below (by (with_reducible repeat (first | apply Kd.R_alloc | apply Kd.R_drewN | apply Kd.R_drew)); exact HO0_2.out) hb); have n1_ := Aside0.mk (Kd.R_below (by (with_reducible repeat (first | apply Kd.R_alloc | apply Kd.R_drewN | apply Kd.R_drew)); exact HO0_3.out) hb); have n2_ := Aside0.mk (blk_below (g := gb212) (o := .cells #[.int .i64 a0_0, .int .i64 a0_1, .slice Ao11 l0_2.length co11, .slice Ao12 l0_3.length co12, .int .i64 a0_4, .int .i64 a0_5] 47 (0, 0)) (by (with_reducible repeat (first | refine blk_drewN ?_ _ | refine blk_drew ?_ | refine blk_alloc ?_ _)); exact BK212.out) hb); have n3_ := Aside0.mk (Kept.below (S := (fun k_ => P0_2_ k_ ∨ P0_3_ k_)) (by repeat (first | (with_reducible first | exact HK.out | apply Kept.alloc | apply Kept.drewN | apply Kept.drew | refine Kept.setCell ?_ (.inr GW212.out) _) | exact HK.out)) hb); have n4_ := Aside0.mk (below_step (by repeat (first | (with_reducible first | exact HB.out | apply below_alloc | apply pw_below_drewN | apply below_drew1 | refine below_set ?_ GE212.out) | exact HB.out)) hb); have n5_ := Aside0.mk (hbox); have n6_ := Aside0.mk ((by rw [hg]; exact (by first | exact HK.out.1 | exact (show Kept w _ (fun k_ => P0_2_ k_ ∨ P0_3_ k_) from by repeat (first | (with_reducible first | exact HK.out | apply Kept.alloc | apply Kept.drewN | apply Kept.drew | refine Kept.setCell ?_ (.inr GW212.out) _) | exact HK.out)).1) : w.heap.size ≤ gb213)); have n7_ := Aside0.mk ((by rw [hg]; exact (below_size (by repeat (first | (with_reducible first | exact HB.out | apply below_alloc | apply pw_below_drewN | apply below_drew1 | refine below_set ?_ GE212.out) | exact HB.out))) : w0.heap.size ≤ gb213)); have n8_ := Aside0.mk ((by rw [hg]; exact Nat.ne_of_lt (blk_lt (g := gb212) (o := .cells #[.int .i64 a0_0, .int .i64 a0_1, .slice Ao11 l0_2.length co11, .slice Ao12 l0_3.length co12, .int .i64 a0_4, .int .i64 a0_5] 47 (0, 0)) (by (with_reducible repeat (first | refine blk_drewN ?_ _ | refine blk_drew ?_ | refine blk_alloc ?_ _)); exact BK212.out)) : gb212 ≠ gb213)); have n9_ := Aside0.mk ((by rw [hg]; exact Nat.ne_of_gt (blk_lt (g := gb212) (o := .cells #[.int .i64 a0_0, .int .i64 a0_1, .slice Ao11 l0_2.length co11, .slice Ao12 l0_3.length co12, .int .i64 a0_4, .int .i64 a0_5] 47 (0, 0)) (by (with_reducible repeat (first | refine blk_drewN ?_ _ | refine blk_drew ?_ | refine blk_alloc ?_ _)); exact BK212.out)) : gb213 ≠ gb212)); clear HO0_2; clear HO0_3; clear BK212; clear HK; clear HB; have HO0_2 := n0_; have HO0_3 := n1_; have BK212 := n2_; have HK := n3_; have HB := n4_; have BK213 := n5_; have GW213 := n6_; have GE213 := n7_; have NB212_213 := n8_; have NB213_212 := n9_; clear n0_ n1_ n2_ n3_ n4_ n5_ n6_ n7_ n8_ n9_; clear hb hbox hg; have hnb15 := NB212_213.out; have hnc15 := NB213_212.out; have hcz16_0 : w14.cell? ⟨gb212, 0, none⟩ = some (.int .i64 a0_0) := (blk_cell BK212.out 0).trans rfl; have hcz16_1 : w14.cell? ⟨gb212, 1, none⟩ = some (.int .i64 a0_1) := (blk_cell BK212.out 1).trans rfl; have hcz16_2 : w14.cell? ⟨gb212, 2, none⟩ = some (.slice Ao11 l0_2.length co11) := (blk_cell BK212.out 2).trans rfl; have hcz16_3 : w14.cell? ⟨gb212, 3, none⟩ = some (.slice Ao12 l0_3.length co12) := (blk_cell BK212.out 3).trans rfl; have hcz16_4 : w14.cell? ⟨gb212, 4, none⟩ = some (.int .i64 a0_4) := (blk_cell BK212.out 4).trans rfl; have hcz16_5 : w14.cell? ⟨gb212, 5, none⟩ = some (.int .i64 a0_5) := (blk_cell BK212.out 5).trans rfl; have hfz16_0 := blk_frozen BK212.out 0; have hfz16_1 := blk_frozen BK212.out 1; have hfz16_2 := blk_frozen BK212.out 2; have hfz16_3 := blk_frozen BK212.out 3; have hfz16_4 := blk_frozen BK212.out 4; have hfz16_5 := blk_frozen BK212.out 5; have hcz17_0 : w14.cell? ⟨gb213, 0, none⟩ = some (.int .i64 0) := (blk_cell BK213.out 0).trans rfl; have hcz17_1 : w14.cell? ⟨gb213, 1, none⟩ = some (.int .i64 0) := (blk_cell BK213.out 1).trans rfl; have hcz17_2 : w14.cell? ⟨gb213, 2, none⟩ = some (.slice none 0 0) := (blk_cell BK213.out 2).trans rfl; have hcz17_3 : w14.cell? ⟨gb213, 3, none⟩ = some (.slice none 0 0) := (blk_cell BK213.out 3).trans rfl; have hcz17_4 : w14.cell? ⟨gb213, 4, none⟩ = some (.int .i64 0) := (blk_cell BK213.out 4).trans rfl; have hcz17_5 : w14.cell? ⟨gb213, 5, none⟩ = some (.int .i64 0) := (blk_cell BK213.out 5).trans rfl; have hfz17_0 := blk_frozen BK213.out 0; have hfz17_1 := blk_frozen BK213.out 1; have hfz17_2 := blk_frozen BK213.out 2; have hfz17_3 := blk_frozen BK213.out 3; have hfz17_4 := blk_frozen BK213.out 4; have hfz17_5 := blk_frozen BK213.out 5))
    refine bodyPost_ret (results_cell_row rfl _ _ gb213 47 #[.int .i64 a0_0, .int .i64 a0_1, .slice Ao11 l0_2.length co11, .slice Ao12 l0_3.length co12, .int .i64 a1, .int .i64 a0_5] (0, 0) _ rfl (by (with_reducible repeat (first | refine blk_drewN ?_ _ | refine blk_drew ?_ | refine blk_alloc ?_ _)); refine blk_put (cs := #[.int .i64 a0_0, .int .i64 a0_1, .slice Ao11 l0_2.length co11, .slice Ao12 l0_3.length co12, .int .i64 a1, .int .i64 0]) ?_ 5 _ rfl; (with_reducible repeat (first | refine blk_drewN ?_ _ | refine blk_drew ?_ | refine blk_alloc ?_ _)); refine blk_put (cs := #[.int .i64 a0_0, .int .i64 a0_1, .slice Ao11 l0_2.length co11, .slice Ao12 l0_3.length co12, .int .i64 0, .int .i64 0]) ?_ 4 _ rfl; (with_reducible repeat (first | refine blk_drewN ?_ _ | refine blk_drew ?_ | refine blk_alloc ?_ _)); refine blk_put (cs := #[.int .i64 a0_0, .int .i64 a0_1, .slice Ao11 l0_2.length co11, .slice none 0 0, .int .i64 0, .int .i64 0]) ?_ 3 _ rfl; (with_reducible repeat (first | refine blk_drewN ?_ _ | refine blk_drew ?_ | refine blk_alloc ?_ _)); refine blk_put (cs := #[.int .i64 a0_0, .int .i64 a0_1, .slice none 0 0, .slice none 0 0, .int .i64 0, .int .i64 0]) ?_ 2 _ rfl; (with_reducible repeat (first | refine blk_drewN ?_ _ | refine blk_drew ?_ | refine blk_alloc ?_ _)); refine blk_put (cs := #[.int .i64 a0_0, .int .i64 0, .slice none 0 0, .slice none 0 0, .int .i64 0, .int .i64 0]) ?_ 1 _ rfl; (with_reducible repeat (first | refine blk_drewN ?_ _ | refine blk_drew ?_ | refine blk_alloc ?_ _)); refine blk_put (cs := #[.int .i64 0, .int .i64 0, .slice none 0 0, .slice none 0 0, .int .i64 0, .int .i64 0]) ?_ 0 _ rfl; (with_reducible repeat (first | refine blk_drewN ?_ _ | refine blk_drew ?_ | refine blk_alloc ?_ _)); refine blk_far ?_ NB213_212.out _; (with_reducible repeat (first | refine blk_drewN ?_ _ | refine blk_drew ?_ | refine blk_alloc ?_ _)); exact BK213.out) Try.underlying47 rfl (by kernel_rfl)) rfl ?_
    exact ⟨_, _, by first | rfl | (simp [errW_none, errW_some] <;> rfl) | (simp [*, errW_none, errW_some] <;> rfl), by (with_reducible repeat (first | apply Kd.R_alloc | apply Kd.R_drewN | apply Kd.R_drew)); exact Kd.R_mono (Kd.R_far (p := ⟨gb213, 5, none⟩) (Kd.R_far (p := ⟨gb213, 4, none⟩) (Kd.R_far (p := ⟨gb213, 3, none⟩) (Kd.R_far (p := ⟨gb213, 2, none⟩) (Kd.R_far (p := ⟨gb213, 1, none⟩) (Kd.R_far (p := ⟨gb213, 0, none⟩) (Kd.R_far (p := ⟨gb212, 4, none⟩) (Kd.R_types (Kd.R_types HO0_2.out BK212.out (by decide)) BK213.out (by decide)) (fun _ hk => hk.1.2) (.int .i64 a1)) (fun _ hk => hk.2) (.int .i64 a0_0)) (fun _ hk => hk.2) (.int .i64 a0_1)) (fun _ hk => hk.2) (.slice Ao11 l0_2.length co11)) (fun _ hk => hk.2) (.slice Ao12 l0_3.length co12)) (fun _ hk => hk.2) (.int .i64 a1)) (fun _ hk => hk.2) (.int .i64 a0_5)) (fun _ hk => hk.1.1), by (with_reducible repeat (first | apply Kd.R_alloc | apply Kd.R_drewN | apply Kd.R_drew)); exact Kd.R_mono (Kd.R_far (p := ⟨gb213, 5, none⟩) (Kd.R_far (p := ⟨gb213, 4, none⟩) (Kd.R_far (p := ⟨gb213, 3, none⟩) (Kd.R_far (p := ⟨gb213, 2, none⟩) (Kd.R_far (p := ⟨gb213, 1, none⟩) (Kd.R_far (p := ⟨gb213, 0, none⟩) (Kd.R_far (p := ⟨gb212, 4, none⟩) (Kd.R_types (Kd.R_types HO0_3.out BK212.out (by decide)) BK213.out (by decide)) (fun _ hk => hk.1.2) (.int .i64 a1)) (fun _ hk => hk.2) (.int .i64 a0_0)) (fun _ hk => hk.2) (.int .i64 a0_1)) (fun _ hk => hk.2) (.slice Ao11 l0_2.length co11)) (fun _ hk => hk.2) (.slice Ao12 l0_3.length co12)) (fun _ hk => hk.2) (.int .i64 a1)) (fun _ hk => hk.2) (.int .i64 a0_5)) (fun _ hk => hk.1.1), by repeat (first | (with_reducible first | exact HB.out | apply below_alloc | apply pw_below_drewN | apply below_drew1 | refine below_set ?_ GE212.out | refine below_set ?_ GE213.out) | exact HB.out), by repeat (first | (with_reducible first | exact HK.out | apply Kept.alloc | apply Kept.drewN | apply Kept.drew | refine Kept.setCell ?_ (.inr GW212.out) _ | refine Kept.setCell ?_ (.inr GW213.out) _) | exact HK.out)⟩

/-! ### rubricatorref03_bit: function 64 -/
def rubricatorref03_bit.l0 : Nat → Int → Int → Int → Option (Bool)
  | 0, _, _, _ => none
  | k + 1, x0, x1, x5 => if x5 < x1 then (rubricatorref03_bit.l0 k ((Int.tdiv x0 2) % 256) x1 (wrap64 (x5 + 1))) else (some ((Int.tmod x0 2) == 1))
def rubricatorref03_bit.f (k : Nat) (a0 : Int) (a1 : Int) : Option (Bool) := rubricatorref03_bit.l0 k a0 a1 0
theorem rubricatorref03_bit.mono_l : ∀ k, (∀ y0 y1 y2, LeO (rubricatorref03_bit.l0 k y0 y1 y2) (rubricatorref03_bit.l0 (k + 1) y0 y1 y2))
  | 0 => fun _ _ _ r h => by simp [rubricatorref03_bit.l0] at h
  | k + 1 => by
    have ih0 := rubricatorref03_bit.mono_l k
    · intro y0 y1 y2
      unfold rubricatorref03_bit.l0
      repeat' first
      | (with_reducible exact ih0 _ _ _)
      | (with_reducible exact LeO.refl _)
      | (with_reducible exact LeO.none _)
      | (with_reducible refine LeO.ite ?_ ?_)
      | (with_reducible refine LeO.bind ?_ (fun _ => ?_))
      | exact ih0 _ _ _
      | exact LeO.none _
      | refine LeO.ite ?_ ?_
      | refine LeO.bind ?_ (fun _ => ?_)
theorem rubricatorref03_bit.mono : ∀ a0 a1 k, LeO (rubricatorref03_bit.f k a0 a1) (rubricatorref03_bit.f (k + 1) a0 a1) := by
  intro a0 a1 k
  have ih0 := rubricatorref03_bit.mono_l k
  unfold rubricatorref03_bit.f
  repeat' first
      | (with_reducible exact ih0 _ _ _)
      | (with_reducible exact LeO.refl _)
      | (with_reducible exact LeO.none _)
      | (with_reducible refine LeO.ite ?_ ?_)
      | (with_reducible refine LeO.bind ?_ (fun _ => ?_))
      | exact ih0 _ _ _
      | exact LeO.none _
      | refine LeO.ite ?_ ?_
      | refine LeO.bind ?_ (fun _ => ?_)
set_option maxHeartbeats 8000000 in
set_option maxRecDepth 100000 in
theorem rubricatorref03_bit.calls (k : Nat) (a0 : Int) (a1 : Int) (r : Bool) (w : World) (h : rubricatorref03_bit.f k a0 a1 = some r) :
    Calls Try.prog 64 #[.int .u8 a0, .int .i64 a1] w fun e w' => e = .returned (.bool r) ∧ Drawn0 w w' := by
  have H : (rubricatorref03_bit.l0 k a0 a1 0) = some r := h
  clear h
  have H' := Aside0.mk H
  clear H
  go_enter Try.func64, Try.ntmps64
  go_wp2
  go_loopg [0, 5] k (fun kq v0 v5 w' => ∃ (x0_1 : Int) (x5_1 : Int), v0 = .int .u8 x0_1 ∧ v5 = .int .i64 x5_1 ∧ Aside0 (rubricatorref03_bit.l0 kq x0_1 a1 x5_1 = some r) ∧ Aside0 (kq ≤ k) ∧ Drawn0 w w')
  case atStart => exact ⟨(a0), (0), (by first | rfl | (simp; done) | (simp [*]; done)), (by first | rfl | (simp; done) | (simp [*]; done)), H', ⟨Nat.le_refl _⟩, by repeat (first | exact Drawn0.refl _ | apply Drawn0.step)⟩
  case round =>
    clear H'
    try clear p2
    obtain ⟨x0_1, x5_1, rfl, rfl, HA, HK1, ⟨m1, rfl⟩⟩ := hrel
    cases gk with
    | zero => exact absurd HA.out (by simp [rubricatorref03_bit.l0])
    | succ k1 =>
      have H := HA.out
      clear HA
      simp only [rubricatorref03_bit.l0] at H
      by_cases c3 : x5_1 < a1
      · rw [if_pos c3] at H
        have c3b0 : decide (x5_1 < a1) = true := decide_eq_true c3
        clear c3
        have H' := Aside0.mk H
        clear H
        go_wp2
        go_roundg k1
        case measure => have := HK1.out; omega
        case rel => exact ⟨((Int.tdiv x0_1 2) % 256), (wrap64 (x5_1 + 1)), (by first | rfl | (simp; done) | (simp [*]; done)), (by first | rfl | (simp; done) | (simp [*]; done)), H', ⟨by have := HK1.out; omega⟩, by repeat (first | exact Drawn0.refl _ | apply Drawn0.step)⟩
      · rw [if_neg c3] at H
        have c3b0 : decide (x5_1 < a1) = false := decide_eq_false c3
        clear c3
        obtain rfl := Option.some.inj H
        go_wp2
        go_ret
        exact ⟨by first | rfl | (simp; done) | (simp [*]; done), by repeat (first | exact Drawn0.refl _ | apply Drawn0.step)⟩

end Go.Proofs.Ythijobbhpbklmaa.PDiskPlays
