/- LawSPl; LawSPm -/
import Derived.Test.YthijobbhpbklmaaSpPl17
import Derived.Test.YthijobbhpbklmaaSpPl19
import Derived.Test.YthijobbhpbklmaaSpPl25
import Derived.Test.YthijobbhpbklmaaSpPl8
import Derived.Test.YthijobbhpbklmaaSpPl9
/- SpacePlays: whatever is taken and given, what is told and all records behind it are the document's. -/
namespace Go.Proofs.Ythijobbhpbklmaa
open Go.RowKit
set_option linter.unusedVariables false
set_option linter.unusedSimpArgs false
/-- A part of a code. -/
def cutAt : List Nat → Code → Code
  | [], c => c
  | 0 :: p, .seq a _ => cutAt p a
  | _ :: p, .seq _ b => cutAt p b
  | 0 :: p, .cond _ a _ => cutAt p a
  | _ :: p, .cond _ _ b => cutAt p b
  | _ :: p, .block _ c => cutAt p c
  | _ :: p, .loop c => cutAt p c
  | _, c => c
theorem take_facts (S : Sp) : S.take.1.lim = S.lim ∧ S.take.1.wait = S.wait ∧ S.take.1.hd = S.hd ∧ S.fin ≤ S.take.1.fin := by
  unfold Sp.take
  split
  · split
    · exact ⟨rfl, rfl, rfl, Nat.le_refl _⟩
    · exact ⟨rfl, rfl, rfl, Nat.le_succ _⟩
  · exact ⟨rfl, rfl, rfl, Nat.le_refl _⟩
theorem take_lt {S : Sp} (h : S.OK) : S.take.2.1 < 4294967296 := by
  have e2 := h.e2
  have e3 := h.e3
  unfold Sp.take
  split
  · split
    · show 0 < _; omega
    · show S.fin < _; omega
  · next hne =>
    have := (h.u1 _ (minS_mem hne).1).2
    show minS S.us < _
    omega
theorem give_facts (S : Sp) (q : Nat) : (S.give q).1.lim = S.lim ∧ (S.give q).1.wait = S.wait ∧ (S.give q).1.hd = S.hd ∧ S.fin = (S.give q).1.fin := by
  unfold Sp.give
  split
  · exact ⟨rfl, rfl, rfl, rfl⟩
  · split
    · exact ⟨rfl, rfl, rfl, rfl⟩
    · exact ⟨rfl, rfl, rfl, rfl⟩
section
variable {B0 B1 B2 B3 B4 B5 B6 B7 B8 B9 Bz By Bx C0 C1 C2 C3 C4 C5 C6 C7 C8 C9 Cz Cy Cx D0 D1 D2 D3 D4 D5 D6 D7 D8 D9 Dz Dy Dx E0 E1 E2 E3 E4 E5 E6 E7 E8 E9 Ez Ey Ex F0 F1 F2 F3 F4 F5 F6 F7 F8 F9 Fz Fy Fx G0 G1 G2 G3 G4 G5 G6 G7 G8 G9 Gz Gy Gx I0 I1 I2 I3 I4 I5 I6 I7 I8 I9 Iz Iy Ix J0 J1 J2 J3 J4 J5 J6 J7 J8 J9 Jz Jy Jx K0 K1 K2 K3 K4 K5 K6 K7 K8 K9 Kz Ky Kx L0 L1 L2 L3 L4 L5 L6 L7 L8 L9 Lz Ly Lx M0 M1 M2 M3 M4 M5 M6 M7 M8 M9 Mz My Mx N0 N1 N2 N3 N4 N5 N6 N7 N8 N9 Nz Ny Nx O0 O1 O2 O3 O4 O5 O6 O7 O8 O9 Oz Oy Ox P0 P1 P2 P3 P4 P5 P6 P7 P8 P9 Pz Py Px Q0 Q1 Q2 Q3 Q4 Q5 Q6 Q7 Q8 Q9 Qz Qy Qx R0 R1 R2 R3 R4 R5 R6 R7 R8 R9 Rz Ry Rx T0 T1 T2 T3 T4 T5 T6 T7 T8 T9 Tz Ty Tx U0 U1 U2 U3 U4 U5 U6 U7 U8 U9 Uz Uy Ux V0 V1 V2 : Value}
set_option maxRecDepth 1000000 in
set_option maxHeartbeats 4000000 in
theorem spl_act (w W : World) (b p gs ga kd pg : Nat) (ok : Nat → Prop) (S : Sp) (T : Nat → Nat) (kb : Bool) (h : PlX w W b p gs ok S T) (hz : ∀ q, S.fin ≤ q → T q = 0) (ha : ActB W ok gs ga kd pg) (hpg : pg < 4294967296) {Q : Exit → Act → World → Prop} (hQ : ∀ (S' : Sp) (W' : World) (t12 t24 t25 t26 t27 t28 t29 t30 t31 t125 t126 t127 t128 t129 t130 t131 t132 t133 t134 t135 t136 t137 t138 t139 t140 t141 t142 t143 t144 t145 t146 t147 t148 t149 t150 t151 t152 t153 t154 t155 t156 t157 t158 t159 t160 : Value), S'.wait = S.wait → S'.hd = S.hd → S.fin ≤ S'.fin → PlX w W' b p gs ok S' T → ActB W' ok gs ga kd pg → Q .normal ⟨#[B0, B1, B2, B3, B4, B5, B6, B7, B8, B9, Bz, By, t12, C0, C1, C2, C3, .pointer (some ⟨p, 0, none⟩), C5, .pointer (some ⟨gs, 0, none⟩), C7, C8, C9, .pointer (some ⟨ga, 0, none⟩), t24, t25, t26, t27, t28, t29, t30, t31, D6, D7, D8, D9, Dz, Dy, Dx, E0, E1, E2, E3, E4, E5, E6, E7, E8, E9, Ez, Ey, Ex, F0, F1, F2, F3, F4, F5, F6, F7, F8, F9, Fz, Fy, Fx, G0, G1, G2, G3, G4, G5, G6, G7, G8, G9, Gz, Gy, Gx, I0, I1, I2, I3, I4, I5, I6, I7, I8, I9, Iz, Iy, Ix, J0, J1, J2, J3, J4, J5, J6, J7, J8, J9, Jz, Jy, Jx, K0, K1, K2, K3, K4, K5, K6, K7, K8, K9, Kz, Ky, Kx, L0, L1, L2, L3, L4, L5, L6, .bool kb, t125, t126, t127, t128, t129, t130, t131, t132, t133, t134, t135, t136, t137, t138, t139, t140, t141, t142, t143, t144, t145, t146, t147, t148, t149, t150, t151, t152, t153, t154, t155, t156, t157, t158, t159, t160, O5, O6, O7, O8, O9, Oz, Oy, Ox, P0, P1, P2, P3, P4, P5, P6, P7, P8, P9, Pz, Py, Px, Q0, Q1, Q2, Q3, Q4, Q5, Q6, Q7, Q8, Q9, Qz, Qy, Qx, R0, R1, R2, R3, R4, R5, R6, R7, R8, R9, Rz, Ry, Rx, T0, T1, T2, T3, T4, T5, T6, T7, T8, T9, Tz, Ty, Tx, U0, U1, U2, U3, U4, U5, U6, U7, U8, U9, Uz, Uy, Ux, V0, V1, V2], []⟩ W') : Code.wp Try.prog (cutAt [1, 1, 1, 1, 1, 1, 1, 1, 1, 1, 0, 1, 1, 1, 1, 0, 1, 1, 0, 1] (Try.f9.body.getD .skip)) Q ⟨#[B0, B1, B2, B3, B4, B5, B6, B7, B8, B9, Bz, By, Bx, C0, C1, C2, C3, .pointer (some ⟨p, 0, none⟩), C5, .pointer (some ⟨gs, 0, none⟩), C7, C8, C9, .pointer (some ⟨ga, 0, none⟩), Cy, Cx, D0, D1, D2, D3, D4, D5, D6, D7, D8, D9, Dz, Dy, Dx, E0, E1, E2, E3, E4, E5, E6, E7, E8, E9, Ez, Ey, Ex, F0, F1, F2, F3, F4, F5, F6, F7, F8, F9, Fz, Fy, Fx, G0, G1, G2, G3, G4, G5, G6, G7, G8, G9, Gz, Gy, Gx, I0, I1, I2, I3, I4, I5, I6, I7, I8, I9, Iz, Iy, Ix, J0, J1, J2, J3, J4, J5, J6, J7, J8, J9, Jz, Jy, Jx, K0, K1, K2, K3, K4, K5, K6, K7, K8, K9, Kz, Ky, Kx, L0, L1, L2, L3, L4, L5, L6, .bool kb, L8, L9, Lz, Ly, Lx, M0, M1, M2, M3, M4, M5, M6, M7, M8, M9, Mz, My, Mx, N0, N1, N2, N3, N4, N5, N6, N7, N8, N9, Nz, Ny, Nx, O0, O1, O2, O3, O4, O5, O6, O7, O8, O9, Oz, Oy, Ox, P0, P1, P2, P3, P4, P5, P6, P7, P8, P9, Pz, Py, Px, Q0, Q1, Q2, Q3, Q4, Q5, Q6, Q7, Q8, Q9, Qz, Qy, Qx, R0, R1, R2, R3, R4, R5, R6, R7, R8, R9, Rz, Ry, Rx, T0, T1, T2, T3, T4, T5, T6, T7, T8, T9, Tz, Ty, Tx, U0, U1, U2, U3, U4, U5, U6, U7, U8, U9, Uz, Uy, Ux, V0, V1, V2], []⟩ W := by
  conv => arg 2; whnf
  obtain ⟨A1, c1, A2, c2, hP⟩ := h
  have hw := hP.sp.wf
  have HA := Lib.hid ha
  have HZ := Lib.hid hz
  clear ha hz
  cases kb with
  | true =>
    have htk := stake_any hP.sp
    unfold STakeP at htk
    obtain ⟨S', q, e, ht⟩ : ∃ S' q e, S.take = (S', q, e) := ⟨_, _, _, rfl⟩
    have HTF : Hid (S'.lim = S.lim ∧ S'.wait = S.wait ∧ S'.hd = S.hd ∧ S.fin ≤ S'.fin) := Lib.hid (by have h := take_facts S; rw [ht] at h; exact h)
    rw [ht] at htk
    have HP := Lib.hid hP
    have HT := Lib.hid ht
    have HL := Lib.hid HTF.out.1
    have HF := Lib.hid HTF.out.2
    have e9 : (e != e) = false := by simp
    have q9 : ((q : Int) != (q : Int)) = false := by simp
    have hq32 : q < 4294967296 := by have h := take_lt hw; rw [ht] at h; exact h
    clear hP ht
    go_wp2_with fail
    refine htk.mono ?_
    rintro x w6 ⟨rfl, hS6, hF6⟩
    clear htk
    have hP6 := HP.out.step hS6 hF6
    have hA6 : ActB w6 ok gs ga kd pg := ⟨(hF6.2.2.2.2 ga (blk_lt HA.out.1) HA.out.2.1).trans HA.out.1, HA.out.2⟩
    obtain ⟨x0, x1, x2, f0, f1, f2⟩ := hP6.cells
    have htr := rtake_any w6 _ S hw _ _ T hP6.i1 hP6.i2 (HZ.out _ (Nat.le_refl _))
    rw [HT.out] at htr
    have HTR := Lib.hid htr
    have HP6 := Lib.hid hP6
    have HA6 := Lib.hid hA6
    clear htr hP6 hA6 hS6 hF6
    go_wp2_with fail
    refine HTR.out.mono ?_
    rintro x w7 ⟨v1, v2, rfl, j1, j2, hb7⟩
    obtain ⟨Bq, e1, rfl⟩ := j1.sl
    obtain ⟨Bp, e2, rfl⟩ := j2.sl
    rw [pwl_length] at j1 ⊢
    rw [ptl_length] at j2 ⊢
    clear x0 x1 x2 f0 f1 f2 HTR
    have hgl := HP6.out.lt
    have hne7 : w7.heap.size ≠ gs := by have := hb7.size; omega
    have hne8 : gs ≠ w7.heap.size := by have := hb7.size; omega
    obtain ⟨x0, x1, x2, f0, f1, f2⟩ := ((HP6.out.below hb7).below ((Below.refl w7.heap.size w7).alloc (Nat.le_refl _) (.cells #[.slice Bq S'.fin e1, .slice Bp S'.fin e2, .int .i64 (S.lim : Int)] 77))).cells
    have hput := HP6.out.put hb7 (.cells #[.slice Bq S'.fin e1, .slice Bp S'.fin e2, .int .i64 (S.lim : Int)] 77) (Sr' := S') j1 j2
    rw [HL.out] at hput
    have hA7 : ActB w7 ok gs ga kd pg := ⟨blk_below HA6.out.1 hb7 (blk_lt HA6.out.1), HA6.out.2⟩
    have hA8 : ActB ((((w7.alloc (.cells #[.slice Bq S'.fin e1, .slice Bp S'.fin e2, .int .i64 (S.lim : Int)] 77)).setCell ⟨gs, 0, none⟩ (.slice Bq S'.fin e1)).setCell ⟨gs, 1, none⟩ (.slice Bp S'.fin e2)).setCell ⟨gs, 2, none⟩ (.int .i64 (S.lim : Int))) ok gs ga kd pg := ⟨(heap_set3 _ hA7.2.2 _ _ _).trans (blk_alloc hA7.1 _), hA7.2⟩
    have HPUT := Lib.hid hput
    have HA8 := Lib.hid hA8
    clear hput hA7 hA8 j1 j2 hb7
    go_wp2_with fail
    exact hQ S' _ _ _ _ _ _ _ _ _ _ _ _ _ _ _ _ _ _ _ _ _ _ _ _ _ _ _ _ _ _ _ _ _ _ _ _ _ _ _ _ _ _ _ _ _ _ HF.out.1 HF.out.2.1 HF.out.2.2 ⟨Bq, e1, Bp, e2, HPUT.out⟩ HA8.out
  | false =>
    have hgv := sgive_any hP.sp pg hpg
    unfold SGiveP at hgv
    obtain ⟨S', e, ht⟩ : ∃ S' e, S.give pg = (S', e) := ⟨_, _, rfl⟩
    have HTF : Hid (S'.lim = S.lim ∧ S'.wait = S.wait ∧ S'.hd = S.hd ∧ S.fin = S'.fin) := Lib.hid (by have h := give_facts S pg; rw [ht] at h; exact h)
    rw [ht] at hgv
    have HP := Lib.hid hP
    have HT := Lib.hid ht
    have HL := Lib.hid HTF.out.1
    have HFN := Lib.hid HTF.out.2.2.2
    have HF := Lib.hid (⟨HTF.out.2.1, HTF.out.2.2.1, Nat.le_of_eq HTF.out.2.2.2⟩ : S'.wait = S.wait ∧ S'.hd = S.hd ∧ S.fin ≤ S'.fin)
    have a1 := blk_cell HA.out.1 1
    have e9 : (e != e) = false := by simp
    clear hP ht
    go_wp2_with fail
    refine hgv.mono ?_
    rintro x w6 ⟨rfl, hS6, hF6⟩
    clear hgv a1
    have hP6 := HP.out.step hS6 hF6
    have hA6 : ActB w6 ok gs ga kd pg := ⟨(hF6.2.2.2.2 ga (blk_lt HA.out.1) HA.out.2.1).trans HA.out.1, HA.out.2⟩
    obtain ⟨x0, x1, x2, f0, f1, f2⟩ := hP6.cells
    have a1 := blk_cell hA6.1 1
    have htr := rgive_any w6 _ S hw _ A2 S.fin c2 (S.lim : Int) hP6.i1 pg hpg
    rw [HT.out] at htr
    have HTR := Lib.hid htr
    have HP6 := Lib.hid hP6
    have HA6 := Lib.hid hA6
    clear htr hP6 hA6 hS6 hF6
    go_wp2_with fail
    refine HTR.out.mono ?_
    rintro x w7 ⟨v1, rfl, j1, hb7⟩
    obtain ⟨Bq, e1, rfl⟩ := j1.sl
    rw [pwl_length] at j1 ⊢
    clear x0 x1 x2 f0 f1 f2 HTR a1
    have hgl := HP6.out.lt
    have hne7 : w7.heap.size ≠ gs := by have := hb7.size; omega
    have hne8 : gs ≠ w7.heap.size := by have := hb7.size; omega
    have j2 := ((HP6.out.below hb7).i2.more (ok' := fun g => (¬ ok g ∧ g ≠ gs) ∨ w6.heap.size ≤ g) (fun g hg => .inl hg))
    rw [HFN.out] at j2
    obtain ⟨x0, x1, x2, f0, f1, f2⟩ := ((HP6.out.below hb7).below ((Below.refl w7.heap.size w7).alloc (Nat.le_refl _) (.cells #[.slice Bq S'.fin e1, .slice A2 S'.fin c2, .int .i64 (S.lim : Int)] 77))).cells
    have hput := HP6.out.put hb7 (.cells #[.slice Bq S'.fin e1, .slice A2 S'.fin c2, .int .i64 (S.lim : Int)] 77) (Sr' := S') j1 j2
    rw [HL.out] at hput
    have hA7 : ActB w7 ok gs ga kd pg := ⟨blk_below HA6.out.1 hb7 (blk_lt HA6.out.1), HA6.out.2⟩
    have hA8 : ActB ((((w7.alloc (.cells #[.slice Bq S'.fin e1, .slice A2 S'.fin c2, .int .i64 (S.lim : Int)] 77)).setCell ⟨gs, 0, none⟩ (.slice Bq S'.fin e1)).setCell ⟨gs, 1, none⟩ (.slice A2 S'.fin c2)).setCell ⟨gs, 2, none⟩ (.int .i64 (S.lim : Int))) ok gs ga kd pg := ⟨(heap_set3 _ hA7.2.2 _ _ _).trans (blk_alloc hA7.1 _), hA7.2⟩
    have HPUT := Lib.hid hput
    have HA8 := Lib.hid hA8
    rw [HFN.out]
    clear hput hA7 hA8 j1 j2 hb7
    go_wp2_with fail
    exact hQ S' _ _ _ _ _ _ _ _ _ _ _ _ _ _ _ _ _ _ _ _ _ _ _ _ _ _ _ _ _ _ _ _ _ _ _ _ _ _ _ _ _ _ _ _ _ _ HF.out.1 HF.out.2.1 HF.out.2.2 ⟨Bq, e1, A2, c2, HPUT.out⟩ HA8.out
set_option maxRecDepth 1000000 in
set_option maxHeartbeats 4000000 in
theorem spl_chk (w W : World) (b p gs ga kd pg : Nat) (ok : Nat → Prop) (S : Sp) (T : Nat → Nat) (h : PlX w W b p gs ok S T) (ha : ActB W ok gs ga kd pg) (hpg : pg < 4294967296) (fb : Bool) (hfb : decide (pg ∈ S.fr) = fb) {Q : Exit → Act → World → Prop} (hQp : ∀ c (a a' : Act) w, a.defers = a'.defers → Q (.panic c) a w → Q (.panic c) a' w) (hQ : ∀ (W' : World) (t177 t178 t179 t180 t181 t182 t183 t184 t185 t186 t187 t188 t189 t190 : Value), RowKit.Below W.heap.size W W' → Q .normal ⟨#[B0, B1, B2, B3, B4, B5, B6, B7, B8, B9, Bz, By, Bx, C0, C1, C2, C3, .pointer (some ⟨p, 0, none⟩), C5, .pointer (some ⟨gs, 0, none⟩), C7, C8, C9, .pointer (some ⟨ga, 0, none⟩), Cy, Cx, D0, D1, D2, D3, D4, D5, .bool fb, D7, D8, D9, Dz, Dy, Dx, E0, E1, E2, E3, E4, E5, E6, E7, E8, E9, Ez, Ey, Ex, F0, F1, F2, F3, F4, F5, F6, F7, F8, F9, Fz, Fy, Fx, G0, G1, G2, G3, G4, G5, G6, G7, G8, G9, Gz, Gy, Gx, I0, I1, I2, I3, I4, I5, I6, I7, I8, I9, Iz, Iy, Ix, J0, J1, J2, J3, J4, J5, J6, J7, J8, J9, Jz, Jy, Jx, K0, K1, K2, K3, K4, K5, K6, K7, K8, K9, Kz, Ky, Kx, L0, L1, L2, L3, L4, L5, L6, L7, L8, L9, Lz, Ly, Lx, M0, M1, M2, M3, M4, M5, M6, M7, M8, M9, Mz, My, Mx, N0, N1, N2, N3, N4, N5, N6, N7, N8, N9, Nz, Ny, Nx, O0, O1, O2, O3, O4, O5, O6, O7, O8, O9, Oz, Oy, Ox, P0, P1, P2, P3, P4, P5, P6, P7, t177, t178, t179, t180, t181, t182, t183, t184, t185, t186, t187, t188, t189, t190, .bool false, Qz, Qy, Qx, R0, R1, R2, R3, R4, R5, R6, R7, R8, R9, Rz, Ry, Rx, T0, T1, T2, T3, T4, T5, T6, T7, T8, T9, Tz, Ty, Tx, U0, U1, U2, U3, U4, U5, U6, U7, U8, U9, Uz, Uy, Ux, V0, V1, V2], []⟩ W') : Code.wp Try.prog (cutAt [1, 1, 1, 1, 1, 1, 1, 1, 1, 1, 0, 1, 1, 1, 1, 0, 1, 1, 1, 1, 0, 0] (Try.f9.body.getD .skip)) Q ⟨#[B0, B1, B2, B3, B4, B5, B6, B7, B8, B9, Bz, By, Bx, C0, C1, C2, C3, .pointer (some ⟨p, 0, none⟩), C5, .pointer (some ⟨gs, 0, none⟩), C7, C8, C9, .pointer (some ⟨ga, 0, none⟩), Cy, Cx, D0, D1, D2, D3, D4, D5, .bool fb, D7, D8, D9, Dz, Dy, Dx, E0, E1, E2, E3, E4, E5, E6, E7, E8, E9, Ez, Ey, Ex, F0, F1, F2, F3, F4, F5, F6, F7, F8, F9, Fz, Fy, Fx, G0, G1, G2, G3, G4, G5, G6, G7, G8, G9, Gz, Gy, Gx, I0, I1, I2, I3, I4, I5, I6, I7, I8, I9, Iz, Iy, Ix, J0, J1, J2, J3, J4, J5, J6, J7, J8, J9, Jz, Jy, Jx, K0, K1, K2, K3, K4, K5, K6, K7, K8, K9, Kz, Ky, Kx, L0, L1, L2, L3, L4, L5, L6, L7, L8, L9, Lz, Ly, Lx, M0, M1, M2, M3, M4, M5, M6, M7, M8, M9, Mz, My, Mx, N0, N1, N2, N3, N4, N5, N6, N7, N8, N9, Nz, Ny, Nx, O0, O1, O2, O3, O4, O5, O6, O7, O8, O9, Oz, Oy, Ox, P0, P1, P2, P3, P4, P5, P6, P7, P8, P9, Pz, Py, Px, Q0, Q1, Q2, Q3, Q4, Q5, Q6, Q7, Q8, Q9, Qz, Qy, Qx, R0, R1, R2, R3, R4, R5, R6, R7, R8, R9, Rz, Ry, Rx, T0, T1, T2, T3, T4, T5, T6, T7, T8, T9, Tz, Ty, Tx, U0, U1, U2, U3, U4, U5, U6, U7, U8, U9, Uz, Uy, Ux, V0, V1, V2], []⟩ W := by
  conv => arg 2; whnf
  obtain ⟨A1, c1, A2, c2, hP⟩ := h
  have hw := hP.sp.wf
  have e2 := hw.e2
  have e3 := hw.e3
  have HP := Lib.hid hP
  have HS : Hid (∀ w', RowKit.Below W.heap.size W w' → w'.cell? ⟨gs, 0, none⟩ = some (.slice A1 S.fin c1) ∧ w'.cell? ⟨ga, 1, none⟩ = some (.int .u32 (pg : Int))) := Lib.hid (fun w' hb => ⟨(HP.out.below hb).cells.1, blk_cell (blk_below ha.1 hb (blk_lt ha.1)) 1⟩)
  have HFR : Hid (∀ w', RowKit.Below W.heap.size W w' → Calls Try.prog 48 #[.pointer (some ⟨p, 0, none⟩), .int .u32 (pg : Int)] w' fun e w'' => e = .returned (.bool (decide (pg ∈ S.fr))) ∧ RowKit.Below W.heap.size W w'') := Lib.hid (fun w' hb => (sfresh_any (HP.out.below hb).sp pg hpg).mono (fun e w'' hh => ⟨hh.1, hb.trans (hh.2.mono hb.size)⟩))
  have HEN : Hid (∀ w', RowKit.Below W.heap.size W w' → Calls Try.prog 49 #[.pointer (some ⟨p, 0, none⟩)] w' fun e w'' => e = .returned (.int .u32 (S.fin : Int)) ∧ RowKit.Below W.heap.size W w'') := Lib.hid (fun w' hb => (send_any (HP.out.below hb).sp).mono (fun e w'' hh => ⟨hh.1, by rw [← hh.2]; exact hb⟩))
  rw [hfb] at HFR
  have e9 : (fb != fb) = false := by simp
  have q9 : ((S.fin : Int) != (S.fin : Int)) = false := by simp
  have hwf1 : IntKind.i64.wrap (S.fin : Int) = (S.fin : Int) := IntWalk.i64_in _ (by omega)
  clear hP hfb ha hw e2 e3
  refine wp_region_held_drew (S := (fun w' => w'.cell? ⟨gs, 0, none⟩ = some (.slice A1 S.fin c1) ∧ w'.cell? ⟨ga, 1, none⟩ = some (.int .u32 (pg : Int)))) (by kernel_rfl) ?_ (fun hHeld => ?_)
  · exact HS.out _ (by first | assumption | exact Below.refl _ _ | exact (Below.refl _ _).drew)
  refine takeP (i := 0) rfl (by kernel_rfl) (by kernel_rfl) (by kernel_rfl) (fun _ _ _ h => hQp _ _ _ _ (by rfl) h) (by rfl) (by assumption) (v := ?_) ?_ ?_
  rotate_left
  · intro w' hSw
    try dsimp only at hSw
    go_simp
    try with_reducible rfl
  try simp only [Act.put, List.setIfInBounds_toArray, List.set_cons_zero, List.set_cons_succ]
  refine takeP (i := 1) rfl (by kernel_rfl) (by kernel_rfl) (by kernel_rfl) (fun _ _ _ h => hQp _ _ _ _ (by rfl) h) (by rfl) (by assumption) (v := ?_) ?_ ?_
  rotate_left
  · intro w' hSw
    try dsimp only at hSw
    go_simp
    try with_reducible rfl
  try simp only [Act.put, List.setIfInBounds_toArray, List.set_cons_zero, List.set_cons_succ]
  refine takeP (i := 2) rfl (by kernel_rfl) (by kernel_rfl) (by kernel_rfl) (fun _ _ _ h => hQp _ _ _ _ (by rfl) h) (by rfl) (by assumption) (v := ?_) ?_ ?_
  rotate_left
  · intro w' hSw
    try dsimp only at hSw
    go_simp
    try with_reducible rfl
  try simp only [Act.put, List.setIfInBounds_toArray, List.set_cons_zero, List.set_cons_succ]
  refine takeP (i := 4) rfl (by kernel_rfl) (by kernel_rfl) (by kernel_rfl) (fun _ _ _ h => hQp _ _ _ _ (by rfl) h) (by rfl) (by assumption) (v := ?_) ?_ ?_
  rotate_left
  · intro w' hSw
    try dsimp only at hSw
    go_simp
    try with_reducible rfl
  try simp only [Act.put, List.setIfInBounds_toArray, List.set_cons_zero, List.set_cons_succ]
  refine carryP (i := 3) rfl (by kernel_rfl) (by rfl) (fun K hK => ?_)
  go_simp
  refine (HFR.out _ (by first | assumption | exact Below.refl _ _ | exact (Below.refl _ _).drew)).mono ?_
  rintro e w6 ⟨rfl, hb6⟩
  refine hK.out _ _ ?_ (fun hHeld => ?_)
  · exact HS.out _ (by first | assumption | exact Below.refl _ _ | exact (Below.refl _ _).drew)
  clear hK K
  try simp only [Act.put, List.setIfInBounds_toArray, List.set_cons_zero, List.set_cons_succ]
  refine takeP (i := 5) rfl (by kernel_rfl) (by kernel_rfl) (by kernel_rfl) (fun _ _ _ h => hQp _ _ _ _ (by rfl) h) (by rfl) (by assumption) (v := ?_) ?_ ?_
  rotate_left
  · intro w' hSw
    try dsimp only at hSw
    go_simp
    try with_reducible rfl
  try simp only [Act.put, List.setIfInBounds_toArray, List.set_cons_zero, List.set_cons_succ]
  refine takeP (i := 6) rfl (by kernel_rfl) (by kernel_rfl) (by kernel_rfl) (fun _ _ _ h => hQp _ _ _ _ (by rfl) h) (by rfl) (by assumption) (v := ?_) ?_ ?_
  rotate_left
  · intro w' hSw
    try dsimp only at hSw
    go_simp
    try with_reducible rfl
  try simp only [Act.put, List.setIfInBounds_toArray, List.set_cons_zero, List.set_cons_succ]
  refine takeP (i := 7) rfl (by kernel_rfl) (by kernel_rfl) (by kernel_rfl) (fun _ _ _ h => hQp _ _ _ _ (by rfl) h) (by rfl) (by assumption) (v := ?_) ?_ ?_
  rotate_left
  · intro w' hSw
    try dsimp only at hSw
    go_simp
    try with_reducible rfl
  try simp only [Act.put, List.setIfInBounds_toArray, List.set_cons_zero, List.set_cons_succ]
  refine takeP (i := 10) rfl (by kernel_rfl) (by kernel_rfl) (by kernel_rfl) (fun _ _ _ h => hQp _ _ _ _ (by rfl) h) (by rfl) (by assumption) (v := ?_) ?_ ?_
  rotate_left
  · intro w' hSw
    try dsimp only at hSw
    go_simp
    try with_reducible rfl
  try simp only [Act.put, List.setIfInBounds_toArray, List.set_cons_zero, List.set_cons_succ]
  refine takeP (i := 11) rfl (by kernel_rfl) (by kernel_rfl) (by kernel_rfl) (fun _ _ _ h => hQp _ _ _ _ (by rfl) h) (by rfl) (by assumption) (v := ?_) ?_ ?_
  rotate_left
  · intro w' hSw
    try dsimp only at hSw
    go_simp
    try with_reducible rfl
  try simp only [Act.put, List.setIfInBounds_toArray, List.set_cons_zero, List.set_cons_succ]
  refine takeP (i := 12) rfl (by kernel_rfl) (by kernel_rfl) (by kernel_rfl) (fun _ _ _ h => hQp _ _ _ _ (by rfl) h) (by rfl) (by assumption) (v := ?_) ?_ ?_
  rotate_left
  · intro w' hSw
    try dsimp only at hSw
    go_simp
    try with_reducible rfl
  try simp only [Act.put, List.setIfInBounds_toArray, List.set_cons_zero, List.set_cons_succ]
  refine carryP (i := 8) rfl (by kernel_rfl) (by rfl) (fun K hK => ?_)
  go_simp
  refine (HEN.out _ (by first | assumption | exact Below.refl _ _ | exact (Below.refl _ _).drew)).mono ?_
  rintro e w7 ⟨rfl, hb7⟩
  refine hK.out _ _ ?_ (fun hHeld => ?_)
  · exact HS.out _ (by first | assumption | exact Below.refl _ _ | exact (Below.refl _ _).drew)
  clear hK K
  try simp only [Act.put, List.setIfInBounds_toArray, List.set_cons_zero, List.set_cons_succ]
  refine takeP (i := 9) rfl (by kernel_rfl) (by kernel_rfl) (by kernel_rfl) (fun _ _ _ h => hQp _ _ _ _ (by rfl) h) (by rfl) (by assumption) (v := ?_) ?_ ?_
  rotate_left
  · intro w' hSw
    try dsimp only at hSw
    go_simp
    try with_reducible rfl
  try simp only [Act.put, List.setIfInBounds_toArray, List.set_cons_zero, List.set_cons_succ]
  refine takeP (i := 13) rfl (by kernel_rfl) (by kernel_rfl) (by kernel_rfl) (fun _ _ _ h => hQp _ _ _ _ (by rfl) h) (by rfl) (by assumption) (v := ?_) ?_ ?_
  rotate_left
  · intro w' hSw
    try dsimp only at hSw
    go_simp
    try with_reducible rfl
  try simp only [Act.put, List.setIfInBounds_toArray, List.set_cons_zero, List.set_cons_succ]
  refine takeP (i := 14) rfl (by kernel_rfl) (by kernel_rfl) (by kernel_rfl) (fun _ _ _ h => hQp _ _ _ _ (by rfl) h) (by rfl) (by assumption) (v := ?_) ?_ ?_
  rotate_left
  · intro w' hSw
    try dsimp only at hSw
    go_simp
    try with_reducible rfl
  try simp only [Act.put, List.setIfInBounds_toArray, List.set_cons_zero, List.set_cons_succ]
  refine wpAnyH_done (by kernel_rfl) ?_ _
  exact hQ _ _ _ _ _ _ _ _ _ _ _ _ _ _ _ hb7
theorem WRow.below_ {w w' : World} {base : Nat} {ok : Nat → Prop} {v : Value} {rs : List FRc} (h : WRow w base ok v rs) (hb : RowKit.Below w.heap.size w w') : WRow w' base ok v rs := h.move fun g C t ho hC _ => ⟨hb.block g (blk_lt hC), ho⟩
section
open Go.Sort
theorem callees13P : Callees13 where
  ins := insertion_page
  brk := breakPatterns_page
  piv := choosePivot_page
  par := partialInsertionSort_page
  peq := partitionEqualOrdered_page
  prt := partitionOrdered_page
theorem plain13P : Plain13 where
  swo := swo_ltP
  ins := insertionSort_holds
  par := partialInsertionSort_holds
  prt := partition_holds _
  peq := partitionEqual_holds _
  pdq := pdq_sorts _
/-- pdqsortOrdered does any pages. -/
theorem pdqAll (m : Nat) : PdqAt m := fun blk off cap a b limit d w hH hb hab hbd _ hsz hl hB =>
  pdqsort_page callees13P plain13P (b - a + 1) blk off cap a b limit d w (by omega) hH hb hab hbd hsz hl hB
theorem sortsAll (m : Nat) : SortsAt m := sorts_at (pdqAll m)
end
set_option maxRecDepth 1000000 in
set_option maxHeartbeats 4000000 in
theorem spl_rec (w W : World) (b p gs t : Nat) (ok : Nat → Prop) (S : Sp) (T : Nat → Nat) (ht : t < 18446744073709551616) (h : PlX w W b p gs ok S T) (htw : TW S T) (hwl : S.wait.length ≤ 1000) (hwr : ∀ r ∈ S.wait, 0 < r.1 ∧ r.1 < 18446744073709551616 ∧ r.2.length ≤ 1000000) {Q : Exit → Act → World → Prop} (hQp : ∀ c (a a' : Act) w, a.defers = a'.defers → Q (.panic c) a w → Q (.panic c) a' w) (hQ : ∀ (W' : World) (t192 t193 t194 t195 t196 t197 t198 t199 t200 t201 t202 t203 t204 : Value), RowKit.Below W.heap.size W W' → Q .normal ⟨#[B0, B1, B2, B3, B4, .int .u64 (t : Int), B6, B7, B8, B9, Bz, By, Bx, C0, C1, C2, C3, .pointer (some ⟨p, 0, none⟩), C5, .pointer (some ⟨gs, 0, none⟩), C7, C8, C9, Cz, Cy, Cx, D0, D1, D2, D3, D4, D5, D6, D7, D8, D9, Dz, Dy, Dx, E0, E1, E2, E3, E4, E5, E6, E7, E8, E9, Ez, Ey, Ex, F0, F1, F2, F3, F4, F5, F6, F7, F8, F9, Fz, Fy, Fx, G0, G1, G2, G3, G4, G5, G6, G7, G8, G9, Gz, Gy, Gx, I0, I1, I2, I3, I4, I5, I6, I7, I8, I9, Iz, Iy, Ix, J0, J1, J2, J3, J4, J5, J6, J7, J8, J9, Jz, Jy, Jx, K0, K1, K2, K3, K4, K5, K6, K7, K8, K9, Kz, Ky, Kx, L0, L1, L2, L3, L4, L5, L6, L7, L8, L9, Lz, Ly, Lx, M0, M1, M2, M3, M4, M5, M6, M7, M8, M9, Mz, My, Mx, N0, N1, N2, N3, N4, N5, N6, N7, N8, N9, Nz, Ny, Nx, O0, O1, O2, O3, O4, O5, O6, O7, O8, O9, Oz, Oy, Ox, P0, P1, P2, P3, P4, P5, P6, P7, P8, P9, Pz, Py, Px, Q0, Q1, Q2, Q3, Q4, Q5, Q6, Q7, Q8, Q9, t192, t193, t194, t195, t196, t197, t198, t199, t200, t201, t202, t203, t204, .bool false, Ry, Rx, T0, T1, T2, T3, T4, T5, T6, T7, T8, T9, Tz, Ty, Tx, U0, U1, U2, U3, U4, U5, U6, U7, U8, U9, Uz, Uy, Ux, V0, V1, V2], []⟩ W') : Code.wp Try.prog (cutAt [1, 1, 1, 1, 1, 1, 1, 1, 1, 1, 0, 1, 1, 1, 1, 0, 1, 1, 1, 1, 1, 0] (Try.f9.body.getD .skip)) Q ⟨#[B0, B1, B2, B3, B4, .int .u64 (t : Int), B6, B7, B8, B9, Bz, By, Bx, C0, C1, C2, C3, .pointer (some ⟨p, 0, none⟩), C5, .pointer (some ⟨gs, 0, none⟩), C7, C8, C9, Cz, Cy, Cx, D0, D1, D2, D3, D4, D5, D6, D7, D8, D9, Dz, Dy, Dx, E0, E1, E2, E3, E4, E5, E6, E7, E8, E9, Ez, Ey, Ex, F0, F1, F2, F3, F4, F5, F6, F7, F8, F9, Fz, Fy, Fx, G0, G1, G2, G3, G4, G5, G6, G7, G8, G9, Gz, Gy, Gx, I0, I1, I2, I3, I4, I5, I6, I7, I8, I9, Iz, Iy, Ix, J0, J1, J2, J3, J4, J5, J6, J7, J8, J9, Jz, Jy, Jx, K0, K1, K2, K3, K4, K5, K6, K7, K8, K9, Kz, Ky, Kx, L0, L1, L2, L3, L4, L5, L6, L7, L8, L9, Lz, Ly, Lx, M0, M1, M2, M3, M4, M5, M6, M7, M8, M9, Mz, My, Mx, N0, N1, N2, N3, N4, N5, N6, N7, N8, N9, Nz, Ny, Nx, O0, O1, O2, O3, O4, O5, O6, O7, O8, O9, Oz, Oy, Ox, P0, P1, P2, P3, P4, P5, P6, P7, P8, P9, Pz, Py, Px, Q0, Q1, Q2, Q3, Q4, Q5, Q6, Q7, Q8, Q9, Qz, Qy, Qx, R0, R1, R2, R3, R4, R5, R6, R7, R8, R9, Rz, Ry, Rx, T0, T1, T2, T3, T4, T5, T6, T7, T8, T9, Tz, Ty, Tx, U0, U1, U2, U3, U4, U5, U6, U7, U8, U9, Uz, Uy, Ux, V0, V1, V2], []⟩ W := by
  conv => arg 2; whnf
  obtain ⟨A1, c1, A2, c2, hP⟩ := h
  have hw := hP.sp.wf
  have e2 := hw.e2
  have e3 := hw.e3
  by_cases htx : t < 18446744073709551615
  · have d1 : decide (t < 18446744073709551615) = true := decide_eq_true htx
    have d1' : decide ((t : Int) < 18446744073709551615) = true := decide_eq_true (by omega)
    have tw1 : IntKind.u64.wrap ((t : Int) + 1) = ((t + 1 : Nat) : Int) := by unfold IntKind.wrap; simp [IntKind.signed, IntKind.bits]; omega
    have hul := nodup_len hw.un (fun q hq => (hw.u1 q hq).2)
    have hgl := nodup_len hw.gd (fun q hq => (hw.g1 q hq).2)
    have HP := Lib.hid hP
    have HS : Hid (∀ w', RowKit.Below W.heap.size W w' → w'.cell? ⟨gs, 0, none⟩ = some (.slice A1 S.fin c1) ∧ w'.cell? ⟨gs, 1, none⟩ = some (.slice A2 S.fin c2) ∧ w'.cell? ⟨gs, 2, none⟩ = some (.int .i64 (S.lim : Int))) := Lib.hid (fun w' hb => ⟨(HP.out.below hb).cells.1, (HP.out.below hb).cells.2.1, (HP.out.below hb).cells.2.2.1⟩)
    have HPR : Hid (∀ w', RowKit.Below W.heap.size W w' → Calls Try.prog 51 #[.pointer (some ⟨p, 0, none⟩), .int .u64 ((t + 1 : Nat) : Int)] w' fun e w'' => ∃ (v : Value) (bs : Nat) (ok' : Nat → Prop), e = .returned v ∧ WRow w'' bs ok' v (sRecs S (t + 1)) ∧ RowKit.Below W.heap.size W w'' ∧ RowKit.Below w'.heap.size w' w'') := Lib.hid (fun w' hb => (srecs_any (sortsAll 65536) (by omega) w' p S 0 ok (HP.out.below hb).sp (by omega) (by omega) (by omega) (fun r hr => ⟨(hwr r hr).2.1, (hwr r hr).2.2⟩) (t + 1) (by omega)).mono (fun e w'' hh => by
      obtain ⟨v, h1, h2, h3⟩ := hh
      exact ⟨v, _, _, h1, h2, hb.trans (h3.mono hb.size), h3⟩))
    have HRR : Hid (∀ w', RowKit.Below W.heap.size W w' → Calls Try.prog 52 #[.agg #[.slice A1 S.fin c1, .slice A2 S.fin c2, .int .i64 (S.lim : Int)], .int .u64 ((t + 1 : Nat) : Int)] w' fun e w'' => ∃ (v : Value) (bs : Nat) (ok' : Nat → Prop), e = .returned v ∧ RRow w'' bs v (sRecs S (t + 1)) ∧ RowKit.Below W.heap.size W w'' ∧ RowKit.Below w'.heap.size w' w'') := Lib.hid (fun w' hb => (rrecords_any w' _ S hw _ _ (S.lim : Int) T (HP.out.below hb).i1 (HP.out.below hb).i2 htw (fun r hr => (hwr r hr).1) hwl (t + 1)).mono (fun e w'' hh => by
      obtain ⟨v, h1, h2, h3⟩ := hh
      exact ⟨v, _, fun _ => True, h1, h2, hb.trans (h3.mono hb.size), h3⟩))
    have HLN : Hid ((sRecs S (t + 1)).length ≤ 1000000) := Lib.hid (by
      unfold sRecs
      have := rec1_len S.us 0
      have := rec1_len S.gn (t + 1)
      rw [List.length_append, List.length_append]
      omega)
    have HRL : Hid (∀ r ∈ sRecs S (t + 1), r.2.length ≤ 1000000) := Lib.hid (fun r hr => by
      have one : ∀ (l : List Nat) (s : Nat), l.length ≤ 65536 → ∀ r ∈ rec1 l s, r.2.length ≤ 1000000 := fun l s hl r hr => by
        unfold rec1 at hr
        split at hr
        · cases hr
        · rw [List.mem_singleton.1 hr]
          show (srt l).length ≤ _
          rw [srt_length]
          omega
      unfold sRecs at hr
      rcases List.mem_append.1 hr with hr | hr
      · rcases List.mem_append.1 hr with hr | hr
        · exact one _ _ (by omega) r hr
        · exact (hwr r hr).2.2
      · exact one _ _ (by omega) r hr)
    clear hP hw e2 e3 hul hgl htw hwr hwl
    refine wp_region_held_drew (S := (fun w' => w'.cell? ⟨gs, 0, none⟩ = some (.slice A1 S.fin c1) ∧ w'.cell? ⟨gs, 1, none⟩ = some (.slice A2 S.fin c2) ∧ w'.cell? ⟨gs, 2, none⟩ = some (.int .i64 (S.lim : Int)))) (by kernel_rfl) ?_ (fun hHeld => ?_)
    · exact HS.out _ (by first | assumption | exact Below.refl _ _ | exact (Below.refl _ _).drew)
    refine takeP (i := 0) rfl (by kernel_rfl) (by kernel_rfl) (by kernel_rfl) (fun _ _ _ h => hQp _ _ _ _ (by rfl) h) (by rfl) (by assumption) (v := ?_) ?_ ?_
    rotate_left
    · intro w' hSw
      try dsimp only at hSw
      go_simp
      try with_reducible rfl
    try simp only [Act.put, List.setIfInBounds_toArray, List.set_cons_zero, List.set_cons_succ]
    refine takeP (i := 1) rfl (by kernel_rfl) (by kernel_rfl) (by kernel_rfl) (fun _ _ _ h => hQp _ _ _ _ (by rfl) h) (by rfl) (by assumption) (v := ?_) ?_ ?_
    rotate_left
    · intro w' hSw
      try dsimp only at hSw
      go_simp
      try with_reducible rfl
    try simp only [Act.put, List.setIfInBounds_toArray, List.set_cons_zero, List.set_cons_succ]
    refine takeP (i := 2) rfl (by kernel_rfl) (by kernel_rfl) (by kernel_rfl) (fun _ _ _ h => hQp _ _ _ _ (by rfl) h) (by rfl) (by assumption) (v := ?_) ?_ ?_
    rotate_left
    · intro w' hSw
      try dsimp only at hSw
      go_simp
      try with_reducible rfl
    try simp only [Act.put, List.setIfInBounds_toArray, List.set_cons_zero, List.set_cons_succ]
    refine takeP (i := 3) rfl (by kernel_rfl) (by kernel_rfl) (by kernel_rfl) (fun _ _ _ h => hQp _ _ _ _ (by rfl) h) (by rfl) (by assumption) (v := ?_) ?_ ?_
    rotate_left
    · intro w' hSw
      try dsimp only at hSw
      go_simp
      try with_reducible rfl
    try simp only [Act.put, List.setIfInBounds_toArray, List.set_cons_zero, List.set_cons_succ]
    refine takeP (i := 4) rfl (by kernel_rfl) (by kernel_rfl) (by kernel_rfl) (fun _ _ _ h => hQp _ _ _ _ (by rfl) h) (by rfl) (by assumption) (v := ?_) ?_ ?_
    rotate_left
    · intro w' hSw
      try dsimp only at hSw
      go_simp
      try with_reducible rfl
    try simp only [Act.put, List.setIfInBounds_toArray, List.set_cons_zero, List.set_cons_succ]
    refine takeP (i := 5) rfl (by kernel_rfl) (by kernel_rfl) (by kernel_rfl) (fun _ _ _ h => hQp _ _ _ _ (by rfl) h) (by rfl) (by assumption) (v := ?_) ?_ ?_
    rotate_left
    · intro w' hSw
      try dsimp only at hSw
      go_simp
      try with_reducible rfl
    try simp only [Act.put, List.setIfInBounds_toArray, List.set_cons_zero, List.set_cons_succ]
    refine takeP (i := 7) rfl (by kernel_rfl) (by kernel_rfl) (by kernel_rfl) (fun _ _ _ h => hQp _ _ _ _ (by rfl) h) (by rfl) (by assumption) (v := ?_) ?_ ?_
    rotate_left
    · intro w' hSw
      try dsimp only at hSw
      go_simp
      try with_reducible rfl
    try simp only [Act.put, List.setIfInBounds_toArray, List.set_cons_zero, List.set_cons_succ]
    refine takeP (i := 8) rfl (by kernel_rfl) (by kernel_rfl) (by kernel_rfl) (fun _ _ _ h => hQp _ _ _ _ (by rfl) h) (by rfl) (by assumption) (v := ?_) ?_ ?_
    rotate_left
    · intro w' hSw
      try dsimp only at hSw
      go_simp
      try with_reducible rfl
    try simp only [Act.put, List.setIfInBounds_toArray, List.set_cons_zero, List.set_cons_succ]
    refine takeP (i := 9) rfl (by kernel_rfl) (by kernel_rfl) (by kernel_rfl) (fun _ _ _ h => hQp _ _ _ _ (by rfl) h) (by rfl) (by assumption) (v := ?_) ?_ ?_
    rotate_left
    · intro w' hSw
      try dsimp only at hSw
      go_simp
      try with_reducible rfl
    try simp only [Act.put, List.setIfInBounds_toArray, List.set_cons_zero, List.set_cons_succ]
    refine carryP (i := 6) rfl (by kernel_rfl) (by rfl) (fun K hK => ?_)
    go_simp
    refine (HPR.out _ (by first | assumption | exact Below.refl _ _ | exact (Below.refl _ _).drew)).mono ?_
    rintro e w6 ⟨v6, b6, ok6, rfl, hr6, hb6, hc6⟩
    refine hK.out _ _ ?_ (fun hHeld => ?_)
    · exact HS.out _ (by first | assumption | exact Below.refl _ _ | exact (Below.refl _ _).drew)
    clear hK K
    try simp only [Act.put, List.setIfInBounds_toArray, List.set_cons_zero, List.set_cons_succ]
    refine carryP (i := 10) rfl (by kernel_rfl) (by rfl) (fun K hK => ?_)
    go_simp
    refine (HRR.out _ (by first | assumption | exact Below.refl _ _ | exact (Below.refl _ _).drew)).mono ?_
    rintro e w7 ⟨v7, b7, ok7, rfl, hr7, hb7, hc7⟩
    replace hr6 := hr6.below_ hc7
    refine hK.out _ _ ?_ (fun hHeld => ?_)
    · exact HS.out _ (by first | assumption | exact Below.refl _ _ | exact (Below.refl _ _).drew)
    clear hK K
    try simp only [Act.put, List.setIfInBounds_toArray, List.set_cons_zero, List.set_cons_succ]
    refine carryP (i := 11) rfl (by kernel_rfl) (by rfl) (fun K hK => ?_)
    go_simp
    refine (same_recs w7 _ _ _ _ _ _ hr6 hr7 HLN.out HRL.out).mono ?_
    rintro e w8 ⟨rfl, hb8⟩
    have hb9 := hb7.trans (hb8.mono hb7.size)
    refine hK.out _ _ ?_ (fun hHeld => ?_)
    · exact HS.out _ (by first | assumption | exact Below.refl _ _ | exact (Below.refl _ _).drew)
    clear hK K
    try simp only [Act.put, List.setIfInBounds_toArray, List.set_cons_zero, List.set_cons_succ]
    refine takeP (i := 12) rfl (by kernel_rfl) (by kernel_rfl) (by kernel_rfl) (fun _ _ _ h => hQp _ _ _ _ (by rfl) h) (by rfl) (by assumption) (v := ?_) ?_ ?_
    rotate_left
    · intro w' hSw
      try dsimp only at hSw
      go_simp
      try with_reducible rfl
    try simp only [Act.put, List.setIfInBounds_toArray, List.set_cons_zero, List.set_cons_succ]
    refine takeP (i := 13) rfl (by kernel_rfl) (by kernel_rfl) (by kernel_rfl) (fun _ _ _ h => hQp _ _ _ _ (by rfl) h) (by rfl) (by assumption) (v := ?_) ?_ ?_
    rotate_left
    · intro w' hSw
      try dsimp only at hSw
      go_simp
      try with_reducible rfl
    try simp only [Act.put, List.setIfInBounds_toArray, List.set_cons_zero, List.set_cons_succ]
    refine wpAnyH_done (by kernel_rfl) ?_ _
    exact hQ _ _ _ _ _ _ _ _ _ _ _ _ _ _ hb9

  · have d1 : decide (t < 18446744073709551615) = false := decide_eq_false htx
    have d1' : decide ((t : Int) < 18446744073709551615) = false := decide_eq_false (by omega)
    clear hP htw hwr
    refine wp_region_held_drew (S := (fun _ => True)) (by kernel_rfl) ?_ (fun hHeld => ?_)
    · exact trivial
    refine takeP (i := 0) rfl (by kernel_rfl) (by kernel_rfl) (by kernel_rfl) (fun _ _ _ h => hQp _ _ _ _ (by rfl) h) (by rfl) (by assumption) (v := ?_) ?_ ?_
    rotate_left
    · intro w' hSw
      try dsimp only at hSw
      go_simp
      try with_reducible rfl
    try simp only [Act.put, List.setIfInBounds_toArray, List.set_cons_zero, List.set_cons_succ]
    refine takeP (i := 1) rfl (by kernel_rfl) (by kernel_rfl) (by kernel_rfl) (fun _ _ _ h => hQp _ _ _ _ (by rfl) h) (by rfl) (by assumption) (v := ?_) ?_ ?_
    rotate_left
    · intro w' hSw
      try dsimp only at hSw
      go_simp
      try with_reducible rfl
    try simp only [Act.put, List.setIfInBounds_toArray, List.set_cons_zero, List.set_cons_succ]
    refine takeP (i := 2) rfl (by kernel_rfl) (by kernel_rfl) (by kernel_rfl) (fun _ _ _ h => hQp _ _ _ _ (by rfl) h) (by rfl) (by assumption) (v := ?_) ?_ ?_
    rotate_left
    · intro w' hSw
      try dsimp only at hSw
      go_simp
      try with_reducible rfl
    try simp only [Act.put, List.setIfInBounds_toArray, List.set_cons_zero, List.set_cons_succ]
    refine takeN (i := 3) rfl (by kernel_rfl) (by kernel_rfl) (by kernel_rfl) (fun _ _ _ h => hQp _ _ _ _ (by rfl) h) (by rfl) (by assumption) ?_
    try simp only [Act.put, List.setIfInBounds_toArray, List.set_cons_zero, List.set_cons_succ]
    refine takeN (i := 4) rfl (by kernel_rfl) (by kernel_rfl) (by kernel_rfl) (fun _ _ _ h => hQp _ _ _ _ (by rfl) h) (by rfl) (by assumption) ?_
    try simp only [Act.put, List.setIfInBounds_toArray, List.set_cons_zero, List.set_cons_succ]
    refine takeN (i := 5) rfl (by kernel_rfl) (by kernel_rfl) (by kernel_rfl) (fun _ _ _ h => hQp _ _ _ _ (by rfl) h) (by rfl) (by assumption) ?_
    try simp only [Act.put, List.setIfInBounds_toArray, List.set_cons_zero, List.set_cons_succ]
    refine takeN (i := 6) rfl (by kernel_rfl) (by kernel_rfl) (by kernel_rfl) (fun _ _ _ h => hQp _ _ _ _ (by rfl) h) (by rfl) (by assumption) ?_
    try simp only [Act.put, List.setIfInBounds_toArray, List.set_cons_zero, List.set_cons_succ]
    refine takeN (i := 7) rfl (by kernel_rfl) (by kernel_rfl) (by kernel_rfl) (fun _ _ _ h => hQp _ _ _ _ (by rfl) h) (by rfl) (by assumption) ?_
    try simp only [Act.put, List.setIfInBounds_toArray, List.set_cons_zero, List.set_cons_succ]
    refine takeN (i := 8) rfl (by kernel_rfl) (by kernel_rfl) (by kernel_rfl) (fun _ _ _ h => hQp _ _ _ _ (by rfl) h) (by rfl) (by assumption) ?_
    try simp only [Act.put, List.setIfInBounds_toArray, List.set_cons_zero, List.set_cons_succ]
    refine takeN (i := 9) rfl (by kernel_rfl) (by kernel_rfl) (by kernel_rfl) (fun _ _ _ h => hQp _ _ _ _ (by rfl) h) (by rfl) (by assumption) ?_
    try simp only [Act.put, List.setIfInBounds_toArray, List.set_cons_zero, List.set_cons_succ]
    refine takeN (i := 10) rfl (by kernel_rfl) (by kernel_rfl) (by kernel_rfl) (fun _ _ _ h => hQp _ _ _ _ (by rfl) h) (by rfl) (by assumption) ?_
    try simp only [Act.put, List.setIfInBounds_toArray, List.set_cons_zero, List.set_cons_succ]
    refine takeN (i := 11) rfl (by kernel_rfl) (by kernel_rfl) (by kernel_rfl) (fun _ _ _ h => hQp _ _ _ _ (by rfl) h) (by rfl) (by assumption) ?_
    try simp only [Act.put, List.setIfInBounds_toArray, List.set_cons_zero, List.set_cons_succ]
    refine takeN (i := 12) rfl (by kernel_rfl) (by kernel_rfl) (by kernel_rfl) (fun _ _ _ h => hQp _ _ _ _ (by rfl) h) (by rfl) (by assumption) ?_
    try simp only [Act.put, List.setIfInBounds_toArray, List.set_cons_zero, List.set_cons_succ]
    refine takeP (i := 13) rfl (by kernel_rfl) (by kernel_rfl) (by kernel_rfl) (fun _ _ _ h => hQp _ _ _ _ (by rfl) h) (by rfl) (by assumption) (v := ?_) ?_ ?_
    rotate_left
    · intro w' hSw
      try dsimp only at hSw
      go_simp
      try with_reducible rfl
    try simp only [Act.put, List.setIfInBounds_toArray, List.set_cons_zero, List.set_cons_succ]
    refine wpAnyH_done (by kernel_rfl) ?_ _
    exact hQ _ _ _ _ _ _ _ _ _ _ _ _ _ _ (Below.refl _ _).drew
set_option maxRecDepth 1000000 in
set_option maxHeartbeats 4000000 in
theorem spl_1 (W : World) (B t : Nat) (ht : t < 18446744073709551616) (A : Option Addr) (n c : Nat) (rs : List FRc) (hR : Recs W B A n rs) (hT : ∀ r ∈ rs, r.1 < 18446744073709551616) (hn : n ≤ 1000) {Q : Exit → Act → World → Prop} (hQ : ∀ (t' : Nat) (t21 t90 t91 t92 t93 t94 t95 t96 t97 t98 t99 t100 t101 t102 : Value), t' < 18446744073709551616 → (∀ r ∈ rs, r.1 ≤ t') → Q .normal ⟨#[B0, B1, .slice A n c, B3, B4, .int .u64 (t' : Int), B6, B7, B8, B9, Bz, By, Bx, C0, C1, C2, C3, C4, C5, C6, C7, t21, C9, Cz, Cy, Cx, D0, D1, D2, D3, D4, D5, D6, D7, D8, D9, Dz, Dy, Dx, E0, E1, E2, E3, E4, E5, E6, E7, E8, E9, Ez, Ey, Ex, F0, F1, F2, F3, F4, F5, F6, F7, F8, F9, Fz, Fy, Fx, G0, G1, G2, G3, G4, G5, G6, G7, G8, G9, Gz, Gy, Gx, I0, I1, I2, I3, I4, I5, I6, I7, I8, I9, Iz, Iy, t90, t91, t92, t93, t94, t95, t96, t97, t98, t99, t100, t101, t102, Jx, K0, K1, K2, K3, K4, K5, K6, K7, K8, K9, Kz, Ky, Kx, L0, L1, L2, L3, L4, L5, L6, L7, L8, L9, Lz, Ly, Lx, M0, M1, M2, M3, M4, M5, M6, M7, M8, M9, Mz, My, Mx, N0, N1, N2, N3, N4, N5, N6, N7, N8, N9, Nz, Ny, Nx, O0, O1, O2, O3, O4, O5, O6, O7, O8, O9, Oz, Oy, Ox, P0, P1, P2, P3, P4, P5, P6, P7, P8, P9, Pz, Py, Px, Q0, Q1, Q2, Q3, Q4, Q5, Q6, Q7, Q8, Q9, Qz, Qy, Qx, R0, R1, R2, R3, R4, R5, R6, R7, R8, R9, Rz, Ry, Rx, T0, T1, T2, T3, T4, T5, T6, T7, T8, T9, Tz, Ty, Tx, U0, U1, U2, U3, U4, U5, U6, U7, U8, U9, Uz, Uy, Ux, V0, V1, V2], []⟩ W) : Code.wp Try.prog (cutAt [1, 1, 1, 1, 1, 1, 1, 1, 1, 0, 1] (Try.f9.body.getD .skip)) Q ⟨#[B0, B1, .slice A n c, B3, B4, .int .u64 (t : Int), B6, B7, B8, B9, Bz, By, Bx, C0, C1, C2, C3, C4, C5, C6, C7, .int .i64 0, C9, Cz, Cy, Cx, D0, D1, D2, D3, D4, D5, D6, D7, D8, D9, Dz, Dy, Dx, E0, E1, E2, E3, E4, E5, E6, E7, E8, E9, Ez, Ey, Ex, F0, F1, F2, F3, F4, F5, F6, F7, F8, F9, Fz, Fy, Fx, G0, G1, G2, G3, G4, G5, G6, G7, G8, G9, Gz, Gy, Gx, I0, I1, I2, I3, I4, I5, I6, I7, I8, I9, Iz, Iy, Ix, J0, J1, J2, J3, J4, J5, J6, J7, J8, J9, Jz, Jy, Jx, K0, K1, K2, K3, K4, K5, K6, K7, K8, K9, Kz, Ky, Kx, L0, L1, L2, L3, L4, L5, L6, L7, L8, L9, Lz, Ly, Lx, M0, M1, M2, M3, M4, M5, M6, M7, M8, M9, Mz, My, Mx, N0, N1, N2, N3, N4, N5, N6, N7, N8, N9, Nz, Ny, Nx, O0, O1, O2, O3, O4, O5, O6, O7, O8, O9, Oz, Oy, Ox, P0, P1, P2, P3, P4, P5, P6, P7, P8, P9, Pz, Py, Px, Q0, Q1, Q2, Q3, Q4, Q5, Q6, Q7, Q8, Q9, Qz, Qy, Qx, R0, R1, R2, R3, R4, R5, R6, R7, R8, R9, Rz, Ry, Rx, T0, T1, T2, T3, T4, T5, T6, T7, T8, T9, Tz, Ty, Tx, U0, U1, U2, U3, U4, U5, U6, U7, U8, U9, Uz, Uy, Ux, V0, V1, V2], []⟩ W := by
  conv => arg 2; whnf
  have HR := Lib.hid hR
  clear hR
  go_wp2_with fail
  go_loopw [5, 21] (fun x i wr => ∃ (k tk : Nat), k ≤ n ∧ x = .int .u64 (tk : Int) ∧ i = .int .i64 (k : Int) ∧ wr = W ∧ tk < 18446744073709551616 ∧ Hid (∀ r ∈ rs.take k, r.1 ≤ tk)) (fun _ i _ => n - (intOf i).toNat)
  case atStart => exact ⟨0, t, Nat.zero_le _, rfl, rfl, rfl, ht, Lib.hid (by rw [List.take_zero]; intro r hr; cases hr)⟩
  case round =>
    obtain ⟨k, tk, hk, rfl, rfl, rfl, htk, HM⟩ := hrel
    by_cases hlt : k < n
    · have d1 : decide ((k : Int) < (n : Int)) = true := decide_eq_true (by omega)
      obtain ⟨r, ad, Ap, np, cp, hrk, rfl, hRC0⟩ := HR.out.at_ hlt
      have c0 := hRC0.2.1
      have hTr := hT r (List.mem_of_getElem? hrk)
      have HTK : Hid (rs.take (k + 1) = rs.take k ++ [r]) := Lib.hid (htk_ hrk)
      clear hRC0 hrk
      go_wp2_with fail
      refine ⟨⟨k + 1, max tk r.1, by omega, by first | (congr 1; omega) | done, by go_num, trivial, by omega, Lib.hid (fun q hq => ?_)⟩, by simp [intOf]; omega⟩
      rw [HTK.out] at hq
      rcases List.mem_append.1 hq with hq | hq
      · have := HM.out q hq
        omega
      · rw [List.mem_singleton.1 hq]
        omega
    · obtain rfl : k = n := by omega
      have d1 : decide ((k : Int) < (k : Int)) = false := decide_eq_false (by omega)
      have hall : rs.take k = rs := List.take_of_length_le (by rw [HR.out.1]; exact Nat.le_refl _)
      rw [hall] at HM
      go_wp2_with fail
      exact hQ tk _ _ _ _ _ _ _ _ _ _ _ _ _ _ htk HM.out
set_option maxRecDepth 1000000 in
set_option maxHeartbeats 4000000 in
theorem spl_2 (w W : World) (b p gs t : Nat) (ht : t < 18446744073709551616) (ok : Nat → Prop) (S : Sp) (T : Nat → Nat) (W0 : List FRc) (A3 : Option Addr) (n3 c3 : Nat) (hA : SActs w b A3 n3) (hW0 : W0.length ≤ 1000 ∧ ∀ r ∈ W0, 0 < r.1 ∧ r.1 < 18446744073709551616 ∧ r.2.length ≤ 1000000) (h : PlX w W b p gs ok S T ∧ TW S T ∧ (∀ q, S.fin ≤ q → T q = 0) ∧ S.wait = W0) {Q : Exit → Act → World → Prop} (hQp : ∀ c (a a' : Act) w, a.defers = a'.defers → Q (.panic c) a w → Q (.panic c) a' w) (hQ : ∀ (S' : Sp) (W' : World) (t12 t22 t23 t24 t25 t26 t27 t28 t29 t30 t31 t32 t103 t104 t105 t106 t107 t108 t109 t110 t111 t112 t113 t114 t115 t116 t117 t118 t119 t120 t121 t122 t123 t124 t125 t126 t127 t128 t129 t130 t131 t132 t133 t134 t135 t136 t137 t138 t139 t140 t141 t142 t143 t144 t145 t146 t147 t148 t149 t150 t151 t152 t153 t154 t155 t156 t157 t158 t159 t160 t161 t162 t163 t164 t165 t166 t167 t168 t169 t170 t171 t172 t173 t174 t175 t176 t177 t178 t179 t180 t181 t182 t183 t184 t185 t186 t187 t188 t189 t190 t191 t192 t193 t194 t195 t196 t197 t198 t199 t200 t201 t202 t203 t204 t205 : Value), PlX w W' b p gs ok S' T → Q .normal ⟨#[B0, B1, B2, B3, .slice A3 n3 c3, .int .u64 (t : Int), B6, B7, B8, B9, Bz, By, t12, C0, C1, C2, C3, .pointer (some ⟨p, 0, none⟩), C5, .pointer (some ⟨gs, 0, none⟩), C7, C8, t22, t23, t24, t25, t26, t27, t28, t29, t30, t31, t32, D7, D8, D9, Dz, Dy, Dx, E0, E1, E2, E3, E4, E5, E6, E7, E8, E9, Ez, Ey, Ex, F0, F1, F2, F3, F4, F5, F6, F7, F8, F9, Fz, Fy, Fx, G0, G1, G2, G3, G4, G5, G6, G7, G8, G9, Gz, Gy, Gx, I0, I1, I2, I3, I4, I5, I6, I7, I8, I9, Iz, Iy, Ix, J0, J1, J2, J3, J4, J5, J6, J7, J8, J9, Jz, Jy, t103, t104, t105, t106, t107, t108, t109, t110, t111, t112, t113, t114, t115, t116, t117, t118, t119, t120, t121, t122, t123, t124, t125, t126, t127, t128, t129, t130, t131, t132, t133, t134, t135, t136, t137, t138, t139, t140, t141, t142, t143, t144, t145, t146, t147, t148, t149, t150, t151, t152, t153, t154, t155, t156, t157, t158, t159, t160, t161, t162, t163, t164, t165, t166, t167, t168, t169, t170, t171, t172, t173, t174, t175, t176, t177, t178, t179, t180, t181, t182, t183, t184, t185, t186, t187, t188, t189, t190, t191, t192, t193, t194, t195, t196, t197, t198, t199, t200, t201, t202, t203, t204, t205, Ry, Rx, T0, T1, T2, T3, T4, T5, T6, T7, T8, T9, Tz, Ty, Tx, U0, U1, U2, U3, U4, U5, U6, U7, U8, U9, Uz, Uy, Ux, V0, V1, V2], []⟩ W') : Code.wp Try.prog (cutAt [1, 1, 1, 1, 1, 1, 1, 1, 1, 1, 0, 1] (Try.f9.body.getD .skip)) Q ⟨#[B0, B1, B2, B3, .slice A3 n3 c3, .int .u64 (t : Int), B6, B7, B8, B9, Bz, By, Bx, C0, C1, C2, C3, .pointer (some ⟨p, 0, none⟩), C5, .pointer (some ⟨gs, 0, none⟩), C7, C8, .int .i64 0, Cz, Cy, Cx, D0, D1, D2, D3, D4, D5, D6, D7, D8, D9, Dz, Dy, Dx, E0, E1, E2, E3, E4, E5, E6, E7, E8, E9, Ez, Ey, Ex, F0, F1, F2, F3, F4, F5, F6, F7, F8, F9, Fz, Fy, Fx, G0, G1, G2, G3, G4, G5, G6, G7, G8, G9, Gz, Gy, Gx, I0, I1, I2, I3, I4, I5, I6, I7, I8, I9, Iz, Iy, Ix, J0, J1, J2, J3, J4, J5, J6, J7, J8, J9, Jz, Jy, Jx, K0, K1, K2, K3, K4, K5, K6, K7, K8, K9, Kz, Ky, Kx, L0, L1, L2, L3, L4, L5, L6, L7, L8, L9, Lz, Ly, Lx, M0, M1, M2, M3, M4, M5, M6, M7, M8, M9, Mz, My, Mx, N0, N1, N2, N3, N4, N5, N6, N7, N8, N9, Nz, Ny, Nx, O0, O1, O2, O3, O4, O5, O6, O7, O8, O9, Oz, Oy, Ox, P0, P1, P2, P3, P4, P5, P6, P7, P8, P9, Pz, Py, Px, Q0, Q1, Q2, Q3, Q4, Q5, Q6, Q7, Q8, Q9, Qz, Qy, Qx, R0, R1, R2, R3, R4, R5, R6, R7, R8, R9, Rz, Ry, Rx, T0, T1, T2, T3, T4, T5, T6, T7, T8, T9, Tz, Ty, Tx, U0, U1, U2, U3, U4, U5, U6, U7, U8, U9, Uz, Uy, Ux, V0, V1, V2], []⟩ W := by
  conv => arg 2; whnf
  have HAC := Lib.hid hA
  have HW0 := Lib.hid hW0
  clear hA hW0
  go_wp2_with fail
  go_loopw [22] (fun i wr => ∃ (k : Nat) (Sk : Sp), k ≤ n3 ∧ k ≤ 40 ∧ i = .int .i64 (k : Int) ∧ Hid (PlX w wr b p gs ok Sk T ∧ TW Sk T ∧ (∀ q, Sk.fin ≤ q → T q = 0) ∧ Sk.wait = W0)) (fun i _ => 40 - (intOf i).toNat)
  case atStart => exact ⟨0, S, Nat.zero_le _, Nat.zero_le _, rfl, Lib.hid h⟩
  case round =>
    obtain ⟨k, Sk, hk, hk40, rfl, HK⟩ := hrel
    clear h
    obtain ⟨wo, hwo⟩ : ∃ wo, wo = wr := ⟨_, rfl⟩
    subst hwo
    by_cases hlt : k < n3 ∧ k < 40
    · obtain ⟨hl1, hl2⟩ := hlt
      have d1 : decide ((k : Int) < (n3 : Int)) = true := decide_eq_true (by omega)
      have d2 : decide ((k : Int) < 40) = true := decide_eq_true (by omega)
      obtain ⟨A1, c1, A2, c2, hP0⟩ := HK.out.1
      obtain ⟨ad, kd, pg, rfl, hadB, a0, a1, hkd, hpg⟩ := (HAC.out.below hP0.bel) k hl1
      have HX : Hid (PlX w (wo.alloc (.cells #[.int .u8 (kd : Int), .int .u32 (pg : Int)] 86)) b p gs ok Sk T) := Lib.hid (HK.out.1.below ((RowKit.Below.refl _ _).alloc (Nat.le_refl _) _))
      have HA : Hid (ActB (wo.alloc (.cells #[.int .u8 (kd : Int), .int .u32 (pg : Int)] 86)) ok gs wo.heap.size kd pg) := Lib.hid ⟨heap_alloc_new _ _, fun ho => by have := hP0.oks _ ho; omega, fun e => by have := hP0.lt; omega⟩
      obtain ⟨K, hK⟩ : ∃ K, bits BinOp.and IntKind.u8 (kd : Int) 1 = K := ⟨_, rfl⟩
      clear hP0 hadB
      go_upto_if 124 with fail
      refine spl_act w _ b p gs wo.heap.size kd pg ok Sk T _ HX.out HK.out.2.2.1 HA.out hpg (fun S' W' t12 t24 t25 t26 t27 t28 t29 t30 t31 t125 t126 t127 t128 t129 t130 t131 t132 t133 t134 t135 t136 t137 t138 t139 t140 t141 t142 t143 t144 t145 t146 t147 t148 t149 t150 t151 t152 t153 t154 t155 t156 t157 t158 t159 t160 h1 h2 h3 h4 h5 => ?_)
      clear a0 a1
      have HX5 := Lib.hid h4
      have HA5 := Lib.hid h5
      obtain ⟨B1, e1, B2, e2, hR5⟩ := h4
      have hwf := hR5.sp.wf
      have f2 := hwf.e2
      have f3 := hwf.e3
      obtain ⟨x0, x1, x2, _, _, _⟩ := hR5.cells
      have y1 := blk_cell h5.1 1
      have HR5 := Lib.hid hR5
      have HI : Hid (TW S' T ∧ (∀ q, S'.fin ≤ q → T q = 0) ∧ S'.wait = W0) := Lib.hid ⟨HK.out.2.1.more h1 h2 h3, fun q hq => HK.out.2.2.1 q (by omega), h1.trans HK.out.2.2.2⟩
      have hcf := code_fresh hwf pg
      have huw : IntKind.u32.wrap (S'.fin : Int) = (S'.fin : Int) := by unfold IntKind.wrap; simp [IntKind.signed, IntKind.bits]; omega
      clear h1 h2 h3 h5 hR5 HX HA HK
      by_cases hpf : pg < S'.fin
      · have d3 : decide (pg < S'.fin) = true := decide_eq_true hpf
        have d3' : decide ((pg : Int) < (S'.fin : Int)) = true := decide_eq_true (by omega)
        obtain ⟨adw, rfl, hc⟩ := HR5.out.i1.at_ (pwl_at (S := S') (q := pg) hpf)
        obtain ⟨fb, hfb⟩ : ∃ fb, decide (pg ∈ S'.fr) = fb := ⟨_, rfl⟩
        have e3 : ((pcode S' pg : Int) == 3) = fb := by rw [← hfb, Bool.eq_iff_iff, beq_iff_eq, decide_eq_true_iff, ← hcf]; omega
        obtain ⟨cd, hcd⟩ : ∃ cd, pcode S' pg = cd := ⟨_, rfl⟩
        rw [hcd] at hc e3
        have HFB := Lib.hid hfb
        clear hcf hcd hfb hwf f2 f3
        go_upto_region 32 with fail
        refine spl_chk w W' b p gs wo.heap.size kd pg ok S' T HX5.out HA5.out hpg _ HFB.out (fun c a a' w hd h => hQp c a a' w hd h) (fun W2 t177 t178 t179 t180 t181 t182 t183 t184 t185 t186 t187 t188 t189 t190 hb2 => ?_)
        have HX6 := Lib.hid (HX5.out.below hb2)
        clear x0 x1 x2 y1 hb2
        go_upto_region 34 with fail
        refine spl_rec w W2 b p gs t ok S' T ht HX6.out HI.out.1 (by rw [HI.out.2.2]; exact HW0.out.1) (by rw [HI.out.2.2]; exact HW0.out.2) (fun c a a' w hd h => hQp c a a' w hd h) (fun W3 t192 t193 t194 t195 t196 t197 t198 t199 t200 t201 t202 t203 t204 hb3 => ?_)
        have HK3 : Hid (PlX w W3 b p gs ok S' T ∧ TW S' T ∧ (∀ q, S'.fin ≤ q → T q = 0) ∧ S'.wait = W0) := Lib.hid ⟨HX6.out.below hb3, HI.out⟩
        clear hb3
        go_wp2_with fail
        exact ⟨⟨k + 1, S', by omega, by omega, by go_num, HK3⟩, by simp [intOf]; omega⟩
      · have d3 : decide (pg < S'.fin) = false := decide_eq_false hpf
        have d3' : decide ((pg : Int) < (S'.fin : Int)) = false := decide_eq_false (by omega)
        obtain ⟨fb, hfb⟩ : ∃ fb, false = fb := ⟨_, rfl⟩
        have HFB : Hid (decide (pg ∈ S'.fr) = false) := Lib.hid (decide_eq_false fun h => by have := (hwf.f1 pg h).2; omega)
        clear hcf hwf f2 f3 hfb
        go_upto_region 32 with fail
        refine spl_chk w W' b p gs wo.heap.size kd pg ok S' T HX5.out HA5.out hpg _ HFB.out (fun c a a' w hd h => hQp c a a' w hd h) (fun W2 t177 t178 t179 t180 t181 t182 t183 t184 t185 t186 t187 t188 t189 t190 hb2 => ?_)
        have HX6 := Lib.hid (HX5.out.below hb2)
        clear x0 x1 x2 y1 hb2
        go_upto_region 34 with fail
        refine spl_rec w W2 b p gs t ok S' T ht HX6.out HI.out.1 (by rw [HI.out.2.2]; exact HW0.out.1) (by rw [HI.out.2.2]; exact HW0.out.2) (fun c a a' w hd h => hQp c a a' w hd h) (fun W3 t192 t193 t194 t195 t196 t197 t198 t199 t200 t201 t202 t203 t204 hb3 => ?_)
        have HK3 : Hid (PlX w W3 b p gs ok S' T ∧ TW S' T ∧ (∀ q, S'.fin ≤ q → T q = 0) ∧ S'.wait = W0) := Lib.hid ⟨HX6.out.below hb3, HI.out⟩
        clear hb3
        go_wp2_with fail
        exact ⟨⟨k + 1, S', by omega, by omega, by go_num, HK3⟩, by simp [intOf]; omega⟩
    · have d1 : (decide ((k : Int) < (n3 : Int)) && decide ((k : Int) < 40)) = false := by
        rw [Bool.and_eq_false_iff]
        rcases Nat.lt_or_ge k n3 with c | c
        · exact .inr (decide_eq_false (by omega))
        · exact .inl (decide_eq_false (by omega))
      by_cases c1 : k < n3
      · have e1 : decide ((k : Int) < (n3 : Int)) = true := decide_eq_true (by omega)
        have e2 : decide ((k : Int) < 40) = false := decide_eq_false (by omega)
        clear d1 hlt
        go_wp2_with fail
        exact hQ Sk _ _ _ _ _ _ _ _ _ _ _ _ _ _ _ _ _ _ _ _ _ _ _ _ _ _ _ _ _ _ _ _ _ _ _ _ _ _ _ _ _ _ _ _ _ _ _ _ _ _ _ _ _ _ _ _ _ _ _ _ _ _ _ _ _ _ _ _ _ _ _ _ _ _ _ _ _ _ _ _ _ _ _ _ _ _ _ _ _ _ _ _ _ _ _ _ _ _ _ _ _ _ _ _ _ _ _ _ _ _ _ _ _ _ _ _ HK.out.1
      · have e1 : decide ((k : Int) < (n3 : Int)) = false := decide_eq_false (by omega)
        clear d1 hlt
        go_wp2_with fail
        exact hQ Sk _ _ _ _ _ _ _ _ _ _ _ _ _ _ _ _ _ _ _ _ _ _ _ _ _ _ _ _ _ _ _ _ _ _ _ _ _ _ _ _ _ _ _ _ _ _ _ _ _ _ _ _ _ _ _ _ _ _ _ _ _ _ _ _ _ _ _ _ _ _ _ _ _ _ _ _ _ _ _ _ _ _ _ _ _ _ _ _ _ _ _ _ _ _ _ _ _ _ _ _ _ _ _ _ _ _ _ _ _ _ _ _ _ _ _ _ HK.out.1
end
end Go.Proofs.Ythijobbhpbklmaa

/- SpacePlays: the law. -/
namespace Go.Proofs.Ythijobbhpbklmaa
open Go.RowKit
set_option linter.unusedVariables false
set_option linter.unusedSimpArgs false

theorem rpAll_len_le {rs : List FRc} {a b : Nat} (h1 : rs.length ≤ a) (h2 : ∀ r ∈ rs, r.2.length ≤ b) : (rpAll rs).length ≤ a * b := by
  have h : ∀ l : List FRc, (∀ r ∈ l, r.2.length ≤ b) → (rpAll l).length ≤ l.length * b := by
    intro l
    induction l with
    | nil => intro _; simp [rpAll]
    | cons r l ih =>
      intro h
      have e1 := h r List.mem_cons_self
      have e2 := ih (fun x hx => h x (List.mem_cons_of_mem _ hx))
      have e3 : rpAll (r :: l) = r.2 ++ rpAll l := rfl
      rw [e3, List.length_append, List.length_cons, Nat.succ_mul]
      omega
  exact Nat.le_trans (h rs h2) (Nat.mul_le_mul_right b h1)
set_option maxRecDepth 1000000 in
set_option maxHeartbeats 4000000 in
theorem spacePlays_law (w : World) (e l : Nat) (he : e < 4294967296) (hl : l < 4294967296) (A : Option Addr) (n c : Nat) (rs : List FRc) (h : Recs w w.heap.size A n rs) (hc : Caps w A n c rs) (hok : FROk rs) (hn : n ≤ 4398046511103) (hrl : ∀ r ∈ rs, r.2.length ≤ 35184372088831) (o : Nat) (ho : o < 18446744073709551616) (A3 : Option Addr) (n3 c3 : Nat) (hA3 : SActs w w.heap.size A3 n3) (t : Nat) (ht : t < 18446744073709551616) :
    Calls Try.prog 9 #[.int .u32 (e : Int), .int .u32 (l : Int), .slice A n c, .int .u64 (o : Int), .slice A3 n3 c3, .int .u64 (t : Int)] w fun x w' => x = .returned (.bool true) ∧ Below w.heap.size w w' := by
  have HREC := Lib.hid h
  have HCAP := Lib.hid hc
  have HA3 := Lib.hid hA3
  have haw := awake08 (sortsAll 60) (by omega) (by omega) w
  clear h hc hA3
  go_enter Try.func9, Try.ntmps9
  go_wp2_with fail
  refine haw.mono ?_
  rintro x w1 ⟨rfl, hb1⟩
  clear haw
  have hR1 := HREC.out.below hb1
  have hC1 : Caps w1 A n c rs := HCAP.out.keep HREC.out (fun p hp => hb1.cell hp)
  have hz1 := hb1.size
  have hfew := few_any w1 w.heap.size A n c rs hR1 hC1
  clear hR1 hC1
  go_wp2_with fail
  refine hfew.mono ?_
  rintro x w2 ⟨f, rfl, HF, hb2⟩
  clear hfew
  have hbb2 := hb1.trans (hb2.mono hz1)
  have hz2 := hb2.size
  clear hb1 hb2
  cases f with
  | false =>
    go_wp2_with fail
    go_ret
    exact ⟨rfl, hbb2⟩
  | true =>
    by_cases he3 : 3000 < e
    · have d1 : decide (3000 < e) = true := decide_eq_true he3
      have d1' : decide ((3000 : Int) < (e : Int)) = true := decide_eq_true (by omega)
      go_wp2_with fail
      go_ret
      exact ⟨rfl, hbb2⟩
    have d1 : decide (3000 < e) = false := decide_eq_false he3
    have d1' : decide ((3000 : Int) < (e : Int)) = false := decide_eq_false (by omega)
    obtain ⟨hf1, hf2⟩ := HF.out rfl
    have htot := rpAll_len_le hf1 hf2
    have hR2 := HREC.out.below hbb2
    have hC2 : Caps w2 A n c rs := HCAP.out.keep HREC.out (fun p hp => hbb2.cell hp)
    have hrec := records_any w2 A n c rs (hR2.more (by omega)) hC2 hn hrl
    clear hR2 hC2
    go_wp2_with fail
    refine hrec.mono ?_
    rintro x w3 ⟨A1, c1, A2, c2, rfl, hK1, hk1, hK2, hk2, hb3⟩
    clear hrec
    have hbb3 := hbb2.trans (hb3.mono (by omega))
    have hz3 := hb3.size
    clear hbb2 hb3
    have hR3 := recs_Rec (c := c1) hK1
    have HR3 := Lib.hid hR3
    have HV3 := Lib.hid (recs_Ref (c := c2) hK2)
    have HK1 := Lib.hid hK1
    have HB3 := Lib.hid hbb3
    have hlen : rs.length = n := hR3.1
    have hn10 : n ≤ 10 := by omega
    have hpl : ∀ r ∈ rs, r.2.length ≤ 1000000000 := fun r hr => by have := hf2 r hr; omega
    have hpl6 : ∀ r ∈ rs, r.2.length ≤ 1000000 := fun r hr => by have := hf2 r hr; omega
    have hwe : IntKind.i64.wrap (e : Int) = (e : Int) := IntWalk.i64_in _ (by omega)
    have hwl : IntKind.i64.wrap (l : Int) = (l : Int) := IntWalk.i64_in _ (by omega)
    clear hR3 hK1 hK2 hbb3
    by_cases hyes : SNewOk e l rs
    · have hrg := hyes.2.2.2
      have hne : ∀ r ∈ rs, r.2 ≠ [] := fun r hr => by
        obtain ⟨i, hi⟩ := List.getElem?_of_mem hr
        exact (hrg i r hi).1
      have hn1 := snew_any w3 w3.heap.size A1 n c1 rs HR3.out (fun W' hW' => hcp_Rec HK1.out hne W' hW') (Nat.le_refl _) hok (by omega) hpl (by omega) e l o ho hyes 0 (fun k => w3.heap.size ≤ k) (Nat.zero_le _) (fun k hk => hk)
      go_wp2_with fail
      refine hn1.mono ?_
      rintro x w4 ⟨p, rfl, hp, hS4, hb4⟩
      clear hn1
      have hz4 := hb4.size
      have hn2 := rnew_any w4 w3.heap.size A2 n c2 rs (HV3.out.below hb4) hz4 hok (by omega) hpl6 (by omega) e l o hyes
      have HS4 := Lib.hid hS4
      have HB4 := Lib.hid hb4
      clear hS4 hb4
      go_wp2_with fail
      refine hn2.mono ?_
      rintro x w5 ⟨v1, v2, rfl, i1, i2, hb5⟩
      obtain ⟨Bq, q1, rfl⟩ := i1.sl
      obtain ⟨Bp, q2, rfl⟩ := i2.sl
      rw [pwl_length] at i1 ⊢
      rw [ptl_length] at i2 ⊢
      have hfe : (sNew e l o rs).fin = e := rfl
      rw [hfe] at i1 ⊢
      clear hn2 hfe
      have hz5 := hb5.size
      obtain ⟨gs, hgs⟩ : ∃ gs, w5.heap.size = gs := ⟨_, rfl⟩
      have hP6 : PlR w (w5.alloc (.cells #[.slice Bq e q1, .slice Bp e q2, .int .i64 (l : Int)] 77)) w.heap.size p gs (fun k => w3.heap.size ≤ k ∧ k < w4.heap.size) (sNew e l o rs) (sNew e l o rs) (tOf rs) Bq q1 Bp q2 := by
        have hba : RowKit.Below w5.heap.size w5 (w5.alloc (.cells #[.slice Bq e q1, .slice Bp e q2, .int .i64 (l : Int)] 77)) := (Below.refl _ _).alloc (Nat.le_refl _) _
        refine ⟨?_, by rw [← hgs]; exact heap_alloc_new w5 _, ?_, ?_, ?_, fun h => by omega, by omega, fun k hk => by omega, fun k hk => by have := hba.size; omega⟩
        · exact HS4.out.move (fun k hk ho => ⟨(hba.block k (by omega)).trans (hb5.block k hk), ho, hk⟩)
        · exact i1.keep hba.size (fun g hg hg2 => ⟨hba.block g hg, fun h => by omega, by omega⟩)
        · exact i2.keep hba.size (fun g hg hg2 => ⟨hba.block g hg, fun h => by omega, by omega⟩)
        · exact ((HB3.out.trans (HB4.out.mono (by omega))).trans (hb5.mono (by omega))).trans (hba.mono (by omega))
      have HP6 := Lib.hid hP6
      have h36 : Hid (RowKit.Below w3.heap.size w3 (w5.alloc (.cells #[.slice Bq e q1, .slice Bp e q2, .int .i64 (l : Int)] 77))) := Lib.hid ((HB4.out.trans (hb5.mono (by omega))).trans (((Below.refl w5.heap.size w5).alloc (Nat.le_refl _) _).mono (by omega)))
      have hrt := spright_any _ w3.heap.size A1 n c1 rs (HR3.out.below h36.out) h36.out.size hok (by omega) hpl (by omega) e
      have HRT := Lib.hid hrt
      clear i1 i2 hb5 hP6 hrt
      go_wp2_with fail
      refine HRT.out.mono ?_
      rintro x w7 ⟨b7, rfl, hb7, hbw7⟩
      obtain rfl : b7 = true := hb7.2 hrg
      have h37 : Hid (RowKit.Below w3.heap.size w3 w7) := Lib.hid (h36.out.trans (hbw7.mono h36.out.size))
      have HP7 := Lib.hid (HP6.out.below hbw7)
      have HRT2 := Lib.hid (rright_any w7 w3.heap.size A2 n c2 rs (HV3.out.below h37.out) h37.out.size hok (by omega) hpl6 (by omega) e he)
      clear hb7 hbw7 HRT
      go_wp2_with fail
      refine HRT2.out.mono ?_
      rintro x w8 ⟨b8, rfl, hb8, hbw8⟩
      obtain rfl : b8 = true := hb8.2 hrg
      have HP8 := Lib.hid (HP7.out.below hbw8)
      clear hb8 hbw8 HRT2
      have HW : Hid (PlX w w8 w.heap.size p gs (fun k => w3.heap.size ≤ k ∧ k < w4.heap.size) (sNew e l o rs) (tOf rs) ∧ TW (sNew e l o rs) (tOf rs) ∧ (∀ q, (sNew e l o rs).fin ≤ q → tOf rs q = 0) ∧ (sNew e l o rs).wait = wNew o rs) := Lib.hid ⟨⟨Bq, q1, Bp, q2, HP8.out⟩, tw_new hrg HS4.out.wf, fun q hq => tOf_none (fun hm => by
        obtain ⟨r, hr, hqr⟩ := rpAll_mem.1 hm
        obtain ⟨i, hi⟩ := List.getElem?_of_mem hr
        obtain ⟨j, hj⟩ := List.getElem?_of_mem hqr
        have h2 := ((hrg i r hi).2.2 j q hj).2.1
        have h3 : e ≤ q := hq
        omega), rfl⟩
      have HW0 : Hid ((wNew o rs).length ≤ 1000 ∧ ∀ r ∈ wNew o rs, 0 < r.1 ∧ r.1 < 18446744073709551616 ∧ r.2.length ≤ 1000000) := Lib.hid ⟨by have := List.length_filter_le (fun r : FRc => !decide (r.1 ≤ o)) rs; show (rs.filter _).length ≤ _; omega, fun r hr => by
        obtain ⟨h1, h2⟩ := List.mem_filter.1 hr
        simp at h2
        exact ⟨by omega, (hok r h1).1, hpl6 r h1⟩⟩
      have hR8 : Hid (Recs w8 w.heap.size A n rs) := Lib.hid (HREC.out.below HP8.out.bel)
      clear HP6 HP7 HP8 h36 h37
      go_upto_block 0 with fail
      refine spl_1 w8 w.heap.size t ht A n c rs hR8.out (fun r hr => (hok r hr).1) (by omega) (fun t' t21 t90 t91 t92 t93 t94 t95 t96 t97 t98 t99 t100 t101 t102 ht' _ => ?_)
      go_upto_block 2 with fail
      refine spl_2 w w8 w.heap.size p gs t' ht' _ (sNew e l o rs) (tOf rs) (wNew o rs) A3 n3 c3 HA3.out HW0.out HW.out (fun c a a' w hd h => ⟨hd.symm.trans h.1, h.2⟩) (fun S' W' t12 t22 t23 t24 t25 t26 t27 t28 t29 t30 t31 t32 t103 t104 t105 t106 t107 t108 t109 t110 t111 t112 t113 t114 t115 t116 t117 t118 t119 t120 t121 t122 t123 t124 t125 t126 t127 t128 t129 t130 t131 t132 t133 t134 t135 t136 t137 t138 t139 t140 t141 t142 t143 t144 t145 t146 t147 t148 t149 t150 t151 t152 t153 t154 t155 t156 t157 t158 t159 t160 t161 t162 t163 t164 t165 t166 t167 t168 t169 t170 t171 t172 t173 t174 t175 t176 t177 t178 t179 t180 t181 t182 t183 t184 t185 t186 t187 t188 t189 t190 t191 t192 t193 t194 t195 t196 t197 t198 t199 t200 t201 t202 t203 t204 t205 hX => ?_)
      have HBW : Hid (Below w.heap.size w W') := Lib.hid (by obtain ⟨_, _, _, _, hX⟩ := hX; exact hX.bel)
      clear hX
      go_wp2_with (first
        | (go_at_call 44; refine (take_nil _).mono ?_; rintro e wz ⟨rfl, rfl⟩)
        | (go_at_call 46; refine (give_nil _ 2).mono ?_; rintro e wg ⟨rfl, hbg⟩; have HBG := Lib.hid hbg; clear hbg)
        | (go_at_call 48; refine (fresh_nil _ 2).mono ?_; rintro e wz ⟨rfl, rfl⟩)
        | (go_at_call 49; refine (end_nil _).mono ?_; rintro e wz ⟨rfl, rfl⟩)
        | (go_at_call 53; refine (usable_nil _).mono ?_; rintro e wz ⟨rfl, rfl⟩)
        | (go_at_call 51; refine (records_nil _ 1).mono ?_; rintro e wz ⟨rfl, rfl⟩))
      go_ret
      exact ⟨rfl, HBW.out.trans (HBG.out.mono HBW.out.size)⟩
    · have hn1 := snew_no w3 w3.heap.size A1 n c1 rs HR3.out (Nat.le_refl _) hok (by omega) hpl (by omega) e l o hyes
      go_wp2_with fail
      refine hn1.mono ?_
      rintro x w4 ⟨rfl, hb4⟩
      clear hn1
      have hz4 := hb4.size
      have hn2 := rnew_zero w4 w3.heap.size A2 n c2 rs (HV3.out.below hb4) hz4 hok (by omega) hpl6 (by omega) e l o he hl hyes
      have HB4 := Lib.hid hb4
      clear hb4
      go_wp2_with fail
      refine hn2.mono ?_
      rintro x w5 ⟨rfl, hb5⟩
      clear hn2
      have hz5 := hb5.size
      have h36 : Hid (RowKit.Below w3.heap.size w3 (w5.alloc (.cells #[.slice none 0 0, .slice none 0 0, .int .i64 0] 77))) := Lib.hid ((HB4.out.trans (hb5.mono (by omega))).trans (((Below.refl w5.heap.size w5).alloc (Nat.le_refl _) _).mono (by omega)))
      have HRT := Lib.hid (spright_any _ w3.heap.size A1 n c1 rs (HR3.out.below h36.out) h36.out.size hok (by omega) hpl (by omega) e)
      clear hb5
      go_wp2_with fail
      refine HRT.out.mono ?_
      rintro x w7 ⟨b7, rfl, hb7, hbw7⟩
      have h37 : Hid (RowKit.Below w3.heap.size w3 w7) := Lib.hid (h36.out.trans (hbw7.mono h36.out.size))
      have HRT2 := Lib.hid (rright_any w7 w3.heap.size A2 n c2 rs (HV3.out.below h37.out) h37.out.size hok (by omega) hpl6 (by omega) e he)
      have H7 := Lib.hid hb7
      clear hb7 hbw7 HRT
      go_wp2_with fail
      refine HRT2.out.mono ?_
      rintro x w8 ⟨b8, rfl, hb8, hbw8⟩
      obtain rfl : b8 = b7 := by
        rw [Bool.eq_iff_iff]
        exact hb8.trans H7.out.symm
      have e9 : (b8 != b8) = false := by simp
      have h38 : Hid (RowKit.Below w3.heap.size w3 w8) := Lib.hid (h37.out.trans (hbw8.mono h37.out.size))
      have HBW : Hid (Below w.heap.size w w8) := Lib.hid (HB3.out.trans (h38.out.mono (by omega)))
      have hR8 : Hid (Recs w8 w.heap.size A n rs) := Lib.hid (HREC.out.below HBW.out)
      clear hb8 hbw8 HRT2 h36 h37 h38 H7
      go_upto_block 0 with fail
      refine spl_1 w8 w.heap.size t ht A n c rs hR8.out (fun r hr => (hok r hr).1) (by omega) (fun t' t21 t90 t91 t92 t93 t94 t95 t96 t97 t98 t99 t100 t101 t102 ht' _ => ?_)
      go_wp2_with fail
      go_loopw [22] (fun i wr => i = .int .i64 0 ∧ wr = w8) (fun i _ => 0)
      case atStart => exact ⟨rfl, rfl⟩
      case round =>
        obtain ⟨rfl, rfl⟩ := hrel
        by_cases h0 : 0 < n3
        · have d2 : decide ((0 : Int) < (n3 : Int)) = true := decide_eq_true (by omega)
          have d2' : decide (0 < n3) = true := decide_eq_true h0
          go_wp2_with (first
            | (go_at_call 44; refine (take_nil _).mono ?_; rintro e wz ⟨rfl, rfl⟩)
            | (go_at_call 46; refine (give_nil _ 2).mono ?_; rintro e wg ⟨rfl, hbg⟩; have HBG := Lib.hid hbg; clear hbg)
            | (go_at_call 48; refine (fresh_nil _ 2).mono ?_; rintro e wz ⟨rfl, rfl⟩)
            | (go_at_call 49; refine (end_nil _).mono ?_; rintro e wz ⟨rfl, rfl⟩)
            | (go_at_call 53; refine (usable_nil _).mono ?_; rintro e wz ⟨rfl, rfl⟩)
            | (go_at_call 51; refine (records_nil _ 1).mono ?_; rintro e wz ⟨rfl, rfl⟩))
          go_ret
          exact ⟨rfl, HBW.out.trans (HBG.out.mono HBW.out.size)⟩
        · have d2 : decide ((0 : Int) < (n3 : Int)) = false := decide_eq_false (by omega)
          have d2' : decide (0 < n3) = false := decide_eq_false h0
          go_wp2_with (first
            | (go_at_call 44; refine (take_nil _).mono ?_; rintro e wz ⟨rfl, rfl⟩)
            | (go_at_call 46; refine (give_nil _ 2).mono ?_; rintro e wg ⟨rfl, hbg⟩; have HBG := Lib.hid hbg; clear hbg)
            | (go_at_call 48; refine (fresh_nil _ 2).mono ?_; rintro e wz ⟨rfl, rfl⟩)
            | (go_at_call 49; refine (end_nil _).mono ?_; rintro e wz ⟨rfl, rfl⟩)
            | (go_at_call 53; refine (usable_nil _).mono ?_; rintro e wz ⟨rfl, rfl⟩)
            | (go_at_call 51; refine (records_nil _ 1).mono ?_; rintro e wz ⟨rfl, rfl⟩))
          go_ret
          exact ⟨rfl, HBW.out.trans (HBG.out.mono HBW.out.size)⟩
end Go.Proofs.Ythijobbhpbklmaa
