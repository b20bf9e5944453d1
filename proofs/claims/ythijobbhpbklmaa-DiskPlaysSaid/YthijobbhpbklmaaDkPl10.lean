/- LawDPlay -/
import Derived.Test.YthijobbhpbklmaaDkPl8
import Derived.Test.YthijobbhpbklmaaDkPl9
import Derived.Deep.DeepCutAuto
import Derived.Deep.CutBlock
set_option linter.unusedVariables false
set_option linter.unusedSimpArgs false
/- DiskPlays. -/
namespace Go.Proofs.Ythijobbhpbklmaa
open Go.RowKit Go.Proofs.YthijobbhpbklmaaW.PrintWords Go.Proofs.Ythijobbhpbklmaa.PDiskPlays
theorem RowB.fr' {w w' : World} {g : Nat} {l : List UInt8} {ok : Nat → Prop} (h : RowB w g l) (hF : Fr ok w w') (hg : ¬ ok g) : RowB w' g l := (hF.2.2.2.2 g h.lt hg).trans h
theorem RBox.fr {w w' : World} {g : Nat} {s l f c : Int} {v2 v3 : Value} {ok : Nat → Prop} (h : RBox w g s l v2 v3 f c) (hF : Fr ok w w') (hg : ¬ ok g) : RBox w' g s l v2 v3 f c := (hF.2.2.2.2 g (blk_lt h) hg).trans h
theorem RBox.kept {w w' : World} {g : Nat} {s l f c : Int} {v2 v3 : Value} {ok : Nat → Prop} (h : RBox w g s l v2 v3 f c) (hF : Kept w w' ok) (hg : ¬ ok g) : RBox w' g s l v2 v3 f c := (hF.2 g (blk_lt h) hg).trans h
theorem RBox.below {w w' : World} {g : Nat} {s l f c : Int} {v2 v3 : Value} (h : RBox w g s l v2 v3 f c) (hb : Below w.heap.size w w') : RBox w' g s l v2 v3 f c := (hb.block g (blk_lt h)).trans h
def ABox (w : World) (g : Nat) (k x y : Int) (A : Option Addr) (n c : Nat) : Prop := w.heap[g]? = some (.cells #[.int .i64 k, .int .i64 x, .int .i64 y, .slice A n c] 51 (0, 0))
theorem ABox.cells {w : World} {g : Nat} {k x y : Int} {A : Option Addr} {n c : Nat} (h : ABox w g k x y A n c) : w.cell? ⟨g, 0, none⟩ = some (.int .i64 k) ∧ w.cell? ⟨g, 1, none⟩ = some (.int .i64 x) ∧ w.cell? ⟨g, 2, none⟩ = some (.int .i64 y) ∧ w.cell? ⟨g, 3, none⟩ = some (.slice A n c) :=
  ⟨blk_cell h 0, blk_cell h 1, blk_cell h 2, blk_cell h 3⟩
theorem Sl.blk {w w' : World} {B : Nat} {A : Option Addr} {n c : Nat} {l : List UInt8} (h : Sl w B A n c l) (hA : ∀ ad, A = some ad → w'.heap[ad.block]? = w.heap[ad.block]?) : Sl w' B A n c l := by
  refine ⟨⟨h.reads.1, fun hn => ?_⟩, h.len, h.cap, h.nil⟩
  obtain ⟨ad, e, hb, hc⟩ := h.reads.2 hn
  refine ⟨ad, e, hb, fun j u hu => ?_⟩
  exact (World.cell?_of_block (a := ad.add j) (by rw [block_of_add]; exact hA ad e)).trans (hc j u hu)
theorem ReadP.uni2 {w w' : World} {base : Nat} {ok : Nat → Prop} {p : Nat} {D : Dk} {I : Int} {e : Ending} (hD : DiskAt w base ok p D) (hfr : ∀ k, w.heap.size ≤ k → ok k) (h : ReadP w base ok p D I e w') : ∃ A n c B, e = .returned (.tuple #[.slice A n c, .int .i64 (D.sRead I).2.2]) ∧ Sl w' B A n c (D.sRead I).2.1 ∧ n ≤ 4096 ∧ (∀ ad, A = some ad → ok ad.block ∧ ad.block < w'.heap.size) ∧ DiskAt w' base ok p (D.sRead I).1 ∧ Fr ok w w' := by
  have hs : D.size ≤ 4096 := hD.wf'.s2
  unfold Dk.sRead
  rcases h with ⟨h1, rfl, rfl⟩ | ⟨h1, h2, rfl, h4, h5⟩ | ⟨h1, h2, g, c, rfl, h3, h4, h5, h6, h7, h8⟩
  · rw [if_neg h1]; exact ⟨none, 0, 0, 0, rfl, Sl.nil_ _ _, by omega, (fun ad e => by cases e), hD, Fr.refl _ _⟩
  · rw [if_pos h1, if_pos h2]; exact ⟨none, 0, 0, 0, rfl, Sl.nil_ _ _, by omega, (fun ad e => by cases e), h4, h5⟩
  · rw [if_pos h1, if_neg h2]
    exact ⟨some ⟨g, 0, none⟩, D.size, c, _, rfl, h5.sl h6 h3, hs, (fun ad e => by cases e; exact ⟨hfr g h4, h5.1⟩), h7.other fun k _ ho => ⟨rfl, ho.1⟩, h8⟩
theorem kind_bits (k : Int) (h : -9223372036854775808 ≤ k ∧ k ≤ 9223372036854775807) : ∃ K : Int, bits BinOp.and IntKind.i64 k 15 = K := ⟨_, rfl⟩
def cutAt : List Nat → Code → Code
  | [], c => c
  | 0 :: p, .seq a _ => cutAt p a
  | _ :: p, .seq _ b => cutAt p b
  | 0 :: p, .cond _ a _ => cutAt p a
  | _ :: p, .cond _ _ b => cutAt p b
  | _ :: p, .block _ c => cutAt p c
  | _ :: p, .loop c => cutAt p c
  | _, c => c
structure LF (w wa : World) (sz b p bw ga j : Nat) (kd x y : Int) (A1 : Option Addr) (n1 c1 : Nat) (l : List UInt8) (okD1 okR : Nat → Prop) (D : Dk) (v2 v3 : Value) : Prop where
  HB : w.heap.size = b
  hsz1 : 0 < sz
  hsz2 : sz ≤ 4096
  bk : -9223372036854775808 ≤ kd ∧ kd ≤ 9223372036854775807
  bx : -9223372036854775808 ≤ x ∧ x ≤ 9223372036854775807
  by_ : -9223372036854775808 ≤ y ∧ y ≤ 9223372036854775807
  hc1 : ¬ 100 < n1
  hc2 : ¬ 100 < x
  hDs : D.size = sz
  hDc : D.calls ≤ j
  hDl : D.loose.length ≤ j
  hj30 : j < 30
  HS1 : DSt w wa b p okD1 okR D v2 v3
  HB1 : RBox wa bw D.size D.limit v2 v3 D.fails D.calls
  HAB : ABox wa ga kd x y A1 n1 c1
  hSL1 : Sl wa b A1 n1 c1 l
  HGA : ¬ okD1 ga
  HGB : ¬ okD1 bw
  HGR : ¬ okR ga
  hg2 : ¬ okR bw
  hg3 : b ≤ bw
  hgw : bw < ga
  hzw : ga < wa.heap.size
  hbo : b ≤ ga
section
variable {B0 B1 B2 B3 B4 B5 B6 B7 B8 B9 C0 C1 C2 C3 C4 C5 C6 C7 C8 C9 D0 D1 D2 D3 D4 D5 D6 D7 D8 D9 E0 E1 E2 E3 E4 E5 E6 E7 E8 E9 F0 F1 F2 F3 F4 F5 F6 F7 F8 F9 G0 G1 G2 G3 G4 G5 G6 G7 G8 G9 H0 H1 H2 H3 H4 H5 H6 H7 H8 H9 I0 I1 I2 I3 I4 I5 I6 I7 I8 I9 J0 J1 J2 J3 J4 J5 J6 J7 J8 J9 K0 K1 K2 K3 K4 K5 K6 K7 K8 K9 L0 L1 L2 L3 L4 L5 L6 L7 L8 L9 M0 M1 M2 M3 M4 M5 M6 M7 M8 M9 N0 N1 N2 N3 N4 N5 N6 N7 N8 N9 O0 O1 O2 O3 O4 O5 O6 O7 O8 O9 P0 P1 P2 P3 P4 P5 P6 P7 P8 P9 Q0 Q1 Q2 Q3 Q4 Q5 Q6 Q7 Q8 Q9 R0 R1 R2 R3 R4 R5 R6 R7 R8 R9 S0 S1 S2 S3 S4 S5 S6 S7 S8 S9 T0 T1 T2 T3 T4 T5 T6 T7 T8 T9 U0 U1 U2 U3 U4 U5 U6 U7 U8 U9 V0 V1 V2 V3 V4 V5 V6 V7 V8 V9 W0 W1 W2 W3 W4 W5 W6 W7 W8 W9 X0 X1 X2 X3 X4 X5 X6 X7 X8 X9 Y0 Y1 Y2 Y3 Y4 Y5 Y6 : Value}
set_option maxRecDepth 1000000 in
set_option maxHeartbeats 4000000 in
theorem dtest96  {K : Int} {Q : Exit → Act → World → Prop} {wa : World} (hQ : ∀ (bb : Bool) (t97 t98 t99 t100 : Value), Q .normal ⟨#[B0, B1, B2, B3, B4, B5, B6, B7, B8, B9, C0, C1, C2, C3, C4, C5, C6, C7, C8, C9, D0, D1, D2, D3, D4, D5, D6, D7, D8, D9, E0, E1, E2, E3, E4, E5, E6, E7, E8, E9, F0, F1, F2, F3, F4, F5, F6, F7, F8, F9, G0, G1, G2, G3, G4, G5, G6, G7, G8, G9, H0, H1, H2, H3, H4, H5, H6, H7, H8, H9, I0, I1, I2, I3, I4, I5, I6, I7, I8, I9, J0, J1, J2, J3, J4, J5, .int .i64 K, J7, J8, J9, K0, K1, K2, K3, K4, K5, .bool bb, t97, t98, t99, t100, L1, L2, L3, L4, L5, L6, L7, L8, L9, M0, M1, M2, M3, M4, M5, M6, M7, M8, M9, N0, N1, N2, N3, N4, N5, N6, N7, N8, N9, O0, O1, O2, O3, O4, O5, O6, O7, O8, O9, P0, P1, P2, P3, P4, P5, P6, P7, P8, P9, Q0, Q1, Q2, Q3, Q4, Q5, Q6, Q7, Q8, Q9, R0, R1, R2, R3, R4, R5, R6, R7, R8, R9, S0, S1, S2, S3, S4, S5, S6, S7, S8, S9, T0, T1, T2, T3, T4, T5, T6, T7, T8, T9, U0, U1, U2, U3, U4, U5, U6, U7, U8, U9, V0, V1, V2, V3, V4, V5, V6, V7, V8, V9, W0, W1, W2, W3, W4, W5, W6, W7, W8, W9, X0, X1, X2, X3, X4, X5, X6, X7, X8, X9, Y0, Y1, Y2, Y3, Y4, Y5, Y6], []⟩ wa) : Code.wp Try.prog (cutAt [1, 1, 1, 1, 1, 1, 1, 0, 1, 1, 1, 1, 0, 1, 1, 1, 1, 1, 0, 1, 1, 0] (Try.f8.body.getD .skip)) Q ⟨#[B0, B1, B2, B3, B4, B5, B6, B7, B8, B9, C0, C1, C2, C3, C4, C5, C6, C7, C8, C9, D0, D1, D2, D3, D4, D5, D6, D7, D8, D9, E0, E1, E2, E3, E4, E5, E6, E7, E8, E9, F0, F1, F2, F3, F4, F5, F6, F7, F8, F9, G0, G1, G2, G3, G4, G5, G6, G7, G8, G9, H0, H1, H2, H3, H4, H5, H6, H7, H8, H9, I0, I1, I2, I3, I4, I5, I6, I7, I8, I9, J0, J1, J2, J3, J4, J5, .int .i64 K, J7, J8, J9, K0, K1, K2, K3, K4, K5, K6, K7, K8, K9, L0, L1, L2, L3, L4, L5, L6, L7, L8, L9, M0, M1, M2, M3, M4, M5, M6, M7, M8, M9, N0, N1, N2, N3, N4, N5, N6, N7, N8, N9, O0, O1, O2, O3, O4, O5, O6, O7, O8, O9, P0, P1, P2, P3, P4, P5, P6, P7, P8, P9, Q0, Q1, Q2, Q3, Q4, Q5, Q6, Q7, Q8, Q9, R0, R1, R2, R3, R4, R5, R6, R7, R8, R9, S0, S1, S2, S3, S4, S5, S6, S7, S8, S9, T0, T1, T2, T3, T4, T5, T6, T7, T8, T9, U0, U1, U2, U3, U4, U5, U6, U7, U8, U9, V0, V1, V2, V3, V4, V5, V6, V7, V8, V9, W0, W1, W2, W3, W4, W5, W6, W7, W8, W9, X0, X1, X2, X3, X4, X5, X6, X7, X8, X9, Y0, Y1, Y2, Y3, Y4, Y5, Y6], []⟩ wa := by
  conv => arg 2; whnf
  obtain ⟨k0, hk0⟩ : ∃ t, (K == 0) = t := ⟨_, rfl⟩
  obtain ⟨k1, hk1⟩ : ∃ t, (K == 1) = t := ⟨_, rfl⟩
  obtain ⟨k2, hk2⟩ : ∃ t, (K == 2) = t := ⟨_, rfl⟩
  obtain ⟨k3, hk3⟩ : ∃ t, (K == 3) = t := ⟨_, rfl⟩
  rcases k0 with _ | _ <;> rcases k1 with _ | _ <;> rcases k2 with _ | _ <;> rcases k3 with _ | _
  all_goals
    go_wp2_with fail
    exact hQ _ _ _ _ _
set_option maxRecDepth 1000000 in
set_option maxHeartbeats 4000000 in
theorem dtest122  {K : Int} {Q : Exit → Act → World → Prop} {wa : World} (hQ : ∀ (bb : Bool) (t123 t124 t125 : Value), Q .normal ⟨#[B0, B1, B2, B3, B4, B5, B6, B7, B8, B9, C0, C1, C2, C3, C4, C5, C6, C7, C8, C9, D0, D1, D2, D3, D4, D5, D6, D7, D8, D9, E0, E1, E2, E3, E4, E5, E6, E7, E8, E9, F0, F1, F2, F3, F4, F5, F6, F7, F8, F9, G0, G1, G2, G3, G4, G5, G6, G7, G8, G9, H0, H1, H2, H3, H4, H5, H6, H7, H8, H9, I0, I1, I2, I3, I4, I5, I6, I7, I8, I9, J0, J1, J2, J3, J4, J5, .int .i64 K, J7, J8, J9, K0, K1, K2, K3, K4, K5, K6, K7, K8, K9, L0, L1, L2, L3, L4, L5, L6, L7, L8, L9, M0, M1, M2, M3, M4, M5, M6, M7, M8, M9, N0, N1, .bool bb, t123, t124, t125, N6, N7, N8, N9, O0, O1, O2, O3, O4, O5, O6, O7, O8, O9, P0, P1, P2, P3, P4, P5, P6, P7, P8, P9, Q0, Q1, Q2, Q3, Q4, Q5, Q6, Q7, Q8, Q9, R0, R1, R2, R3, R4, R5, R6, R7, R8, R9, S0, S1, S2, S3, S4, S5, S6, S7, S8, S9, T0, T1, T2, T3, T4, T5, T6, T7, T8, T9, U0, U1, U2, U3, U4, U5, U6, U7, U8, U9, V0, V1, V2, V3, V4, V5, V6, V7, V8, V9, W0, W1, W2, W3, W4, W5, W6, W7, W8, W9, X0, X1, X2, X3, X4, X5, X6, X7, X8, X9, Y0, Y1, Y2, Y3, Y4, Y5, Y6], []⟩ wa) : Code.wp Try.prog (cutAt [1, 1, 1, 1, 1, 1, 1, 0, 1, 1, 1, 1, 0, 1, 1, 1, 1, 1, 0, 1, 1, 1, 1, 0] (Try.f8.body.getD .skip)) Q ⟨#[B0, B1, B2, B3, B4, B5, B6, B7, B8, B9, C0, C1, C2, C3, C4, C5, C6, C7, C8, C9, D0, D1, D2, D3, D4, D5, D6, D7, D8, D9, E0, E1, E2, E3, E4, E5, E6, E7, E8, E9, F0, F1, F2, F3, F4, F5, F6, F7, F8, F9, G0, G1, G2, G3, G4, G5, G6, G7, G8, G9, H0, H1, H2, H3, H4, H5, H6, H7, H8, H9, I0, I1, I2, I3, I4, I5, I6, I7, I8, I9, J0, J1, J2, J3, J4, J5, .int .i64 K, J7, J8, J9, K0, K1, K2, K3, K4, K5, K6, K7, K8, K9, L0, L1, L2, L3, L4, L5, L6, L7, L8, L9, M0, M1, M2, M3, M4, M5, M6, M7, M8, M9, N0, N1, N2, N3, N4, N5, N6, N7, N8, N9, O0, O1, O2, O3, O4, O5, O6, O7, O8, O9, P0, P1, P2, P3, P4, P5, P6, P7, P8, P9, Q0, Q1, Q2, Q3, Q4, Q5, Q6, Q7, Q8, Q9, R0, R1, R2, R3, R4, R5, R6, R7, R8, R9, S0, S1, S2, S3, S4, S5, S6, S7, S8, S9, T0, T1, T2, T3, T4, T5, T6, T7, T8, T9, U0, U1, U2, U3, U4, U5, U6, U7, U8, U9, V0, V1, V2, V3, V4, V5, V6, V7, V8, V9, W0, W1, W2, W3, W4, W5, W6, W7, W8, W9, X0, X1, X2, X3, X4, X5, X6, X7, X8, X9, Y0, Y1, Y2, Y3, Y4, Y5, Y6], []⟩ wa := by
  conv => arg 2; whnf
  obtain ⟨k4, hk4⟩ : ∃ t, (K == 4) = t := ⟨_, rfl⟩
  obtain ⟨k5, hk5⟩ : ∃ t, (K == 5) = t := ⟨_, rfl⟩
  obtain ⟨k6, hk6⟩ : ∃ t, (K == 6) = t := ⟨_, rfl⟩
  rcases k4 with _ | _ <;> rcases k5 with _ | _ <;> rcases k6 with _ | _
  all_goals
    go_wp2_with fail
    exact hQ _ _ _ _
set_option maxRecDepth 1000000 in
set_option maxHeartbeats 4000000 in
theorem dtest148  {K : Int} {Q : Exit → Act → World → Prop} {wa : World} (hQ : ∀ (bb : Bool) (t149 t150 : Value), Q .normal ⟨#[B0, B1, B2, B3, B4, B5, B6, B7, B8, B9, C0, C1, C2, C3, C4, C5, C6, C7, C8, C9, D0, D1, D2, D3, D4, D5, D6, D7, D8, D9, E0, E1, E2, E3, E4, E5, E6, E7, E8, E9, F0, F1, F2, F3, F4, F5, F6, F7, F8, F9, G0, G1, G2, G3, G4, G5, G6, G7, G8, G9, H0, H1, H2, H3, H4, H5, H6, H7, H8, H9, I0, I1, I2, I3, I4, I5, I6, I7, I8, I9, J0, J1, J2, J3, J4, J5, .int .i64 K, J7, J8, J9, K0, K1, K2, K3, K4, K5, K6, K7, K8, K9, L0, L1, L2, L3, L4, L5, L6, L7, L8, L9, M0, M1, M2, M3, M4, M5, M6, M7, M8, M9, N0, N1, N2, N3, N4, N5, N6, N7, N8, N9, O0, O1, O2, O3, O4, O5, O6, O7, O8, O9, P0, P1, P2, P3, P4, P5, P6, P7, .bool bb, t149, t150, Q1, Q2, Q3, Q4, Q5, Q6, Q7, Q8, Q9, R0, R1, R2, R3, R4, R5, R6, R7, R8, R9, S0, S1, S2, S3, S4, S5, S6, S7, S8, S9, T0, T1, T2, T3, T4, T5, T6, T7, T8, T9, U0, U1, U2, U3, U4, U5, U6, U7, U8, U9, V0, V1, V2, V3, V4, V5, V6, V7, V8, V9, W0, W1, W2, W3, W4, W5, W6, W7, W8, W9, X0, X1, X2, X3, X4, X5, X6, X7, X8, X9, Y0, Y1, Y2, Y3, Y4, Y5, Y6], []⟩ wa) : Code.wp Try.prog (cutAt [1, 1, 1, 1, 1, 1, 1, 0, 1, 1, 1, 1, 0, 1, 1, 1, 1, 1, 0, 1, 1, 1, 1, 1, 1, 0] (Try.f8.body.getD .skip)) Q ⟨#[B0, B1, B2, B3, B4, B5, B6, B7, B8, B9, C0, C1, C2, C3, C4, C5, C6, C7, C8, C9, D0, D1, D2, D3, D4, D5, D6, D7, D8, D9, E0, E1, E2, E3, E4, E5, E6, E7, E8, E9, F0, F1, F2, F3, F4, F5, F6, F7, F8, F9, G0, G1, G2, G3, G4, G5, G6, G7, G8, G9, H0, H1, H2, H3, H4, H5, H6, H7, H8, H9, I0, I1, I2, I3, I4, I5, I6, I7, I8, I9, J0, J1, J2, J3, J4, J5, .int .i64 K, J7, J8, J9, K0, K1, K2, K3, K4, K5, K6, K7, K8, K9, L0, L1, L2, L3, L4, L5, L6, L7, L8, L9, M0, M1, M2, M3, M4, M5, M6, M7, M8, M9, N0, N1, N2, N3, N4, N5, N6, N7, N8, N9, O0, O1, O2, O3, O4, O5, O6, O7, O8, O9, P0, P1, P2, P3, P4, P5, P6, P7, P8, P9, Q0, Q1, Q2, Q3, Q4, Q5, Q6, Q7, Q8, Q9, R0, R1, R2, R3, R4, R5, R6, R7, R8, R9, S0, S1, S2, S3, S4, S5, S6, S7, S8, S9, T0, T1, T2, T3, T4, T5, T6, T7, T8, T9, U0, U1, U2, U3, U4, U5, U6, U7, U8, U9, V0, V1, V2, V3, V4, V5, V6, V7, V8, V9, W0, W1, W2, W3, W4, W5, W6, W7, W8, W9, X0, X1, X2, X3, X4, X5, X6, X7, X8, X9, Y0, Y1, Y2, Y3, Y4, Y5, Y6], []⟩ wa := by
  conv => arg 2; whnf
  obtain ⟨k7, hk7⟩ : ∃ t, (K == 7) = t := ⟨_, rfl⟩
  obtain ⟨k8, hk8⟩ : ∃ t, (K == 8) = t := ⟨_, rfl⟩
  rcases k7 with _ | _ <;> rcases k8 with _ | _
  all_goals
    go_wp2_with fail
    exact hQ _ _ _
set_option maxRecDepth 1000000 in
set_option maxHeartbeats 4000000 in
theorem dtest162  {K : Int} {Q : Exit → Act → World → Prop} {wa : World} (hQ : ∀ (bb : Bool) (t163 t164 t165 : Value), Q .normal ⟨#[B0, B1, B2, B3, B4, B5, B6, B7, B8, B9, C0, C1, C2, C3, C4, C5, C6, C7, C8, C9, D0, D1, D2, D3, D4, D5, D6, D7, D8, D9, E0, E1, E2, E3, E4, E5, E6, E7, E8, E9, F0, F1, F2, F3, F4, F5, F6, F7, F8, F9, G0, G1, G2, G3, G4, G5, G6, G7, G8, G9, H0, H1, H2, H3, H4, H5, H6, H7, H8, H9, I0, I1, I2, I3, I4, I5, I6, I7, I8, I9, J0, J1, J2, J3, J4, J5, .int .i64 K, J7, J8, J9, K0, K1, K2, K3, K4, K5, K6, K7, K8, K9, L0, L1, L2, L3, L4, L5, L6, L7, L8, L9, M0, M1, M2, M3, M4, M5, M6, M7, M8, M9, N0, N1, N2, N3, N4, N5, N6, N7, N8, N9, O0, O1, O2, O3, O4, O5, O6, O7, O8, O9, P0, P1, P2, P3, P4, P5, P6, P7, P8, P9, Q0, Q1, Q2, Q3, Q4, Q5, Q6, Q7, Q8, Q9, R0, R1, .bool bb, t163, t164, t165, R6, R7, R8, R9, S0, S1, S2, S3, S4, S5, S6, S7, S8, S9, T0, T1, T2, T3, T4, T5, T6, T7, T8, T9, U0, U1, U2, U3, U4, U5, U6, U7, U8, U9, V0, V1, V2, V3, V4, V5, V6, V7, V8, V9, W0, W1, W2, W3, W4, W5, W6, W7, W8, W9, X0, X1, X2, X3, X4, X5, X6, X7, X8, X9, Y0, Y1, Y2, Y3, Y4, Y5, Y6], []⟩ wa) : Code.wp Try.prog (cutAt [1, 1, 1, 1, 1, 1, 1, 0, 1, 1, 1, 1, 0, 1, 1, 1, 1, 1, 0, 1, 1, 1, 1, 1, 1, 1, 1, 0] (Try.f8.body.getD .skip)) Q ⟨#[B0, B1, B2, B3, B4, B5, B6, B7, B8, B9, C0, C1, C2, C3, C4, C5, C6, C7, C8, C9, D0, D1, D2, D3, D4, D5, D6, D7, D8, D9, E0, E1, E2, E3, E4, E5, E6, E7, E8, E9, F0, F1, F2, F3, F4, F5, F6, F7, F8, F9, G0, G1, G2, G3, G4, G5, G6, G7, G8, G9, H0, H1, H2, H3, H4, H5, H6, H7, H8, H9, I0, I1, I2, I3, I4, I5, I6, I7, I8, I9, J0, J1, J2, J3, J4, J5, .int .i64 K, J7, J8, J9, K0, K1, K2, K3, K4, K5, K6, K7, K8, K9, L0, L1, L2, L3, L4, L5, L6, L7, L8, L9, M0, M1, M2, M3, M4, M5, M6, M7, M8, M9, N0, N1, N2, N3, N4, N5, N6, N7, N8, N9, O0, O1, O2, O3, O4, O5, O6, O7, O8, O9, P0, P1, P2, P3, P4, P5, P6, P7, P8, P9, Q0, Q1, Q2, Q3, Q4, Q5, Q6, Q7, Q8, Q9, R0, R1, R2, R3, R4, R5, R6, R7, R8, R9, S0, S1, S2, S3, S4, S5, S6, S7, S8, S9, T0, T1, T2, T3, T4, T5, T6, T7, T8, T9, U0, U1, U2, U3, U4, U5, U6, U7, U8, U9, V0, V1, V2, V3, V4, V5, V6, V7, V8, V9, W0, W1, W2, W3, W4, W5, W6, W7, W8, W9, X0, X1, X2, X3, X4, X5, X6, X7, X8, X9, Y0, Y1, Y2, Y3, Y4, Y5, Y6], []⟩ wa := by
  conv => arg 2; whnf
  obtain ⟨k9, hk9⟩ : ∃ t, (K == 9) = t := ⟨_, rfl⟩
  obtain ⟨k10, hk10⟩ : ∃ t, (K == 10) = t := ⟨_, rfl⟩
  obtain ⟨k11, hk11⟩ : ∃ t, (K == 11) = t := ⟨_, rfl⟩
  rcases k9 with _ | _ <;> rcases k10 with _ | _ <;> rcases k11 with _ | _
  all_goals
    go_wp2_with fail
    exact hQ _ _ _ _
set_option maxRecDepth 1000000 in
set_option maxHeartbeats 4000000 in
theorem dtest173  {K : Int} {Q : Exit → Act → World → Prop} {wa : World} (hQ : ∀ (bb : Bool) (t174 t175 : Value), Q .normal ⟨#[B0, B1, B2, B3, B4, B5, B6, B7, B8, B9, C0, C1, C2, C3, C4, C5, C6, C7, C8, C9, D0, D1, D2, D3, D4, D5, D6, D7, D8, D9, E0, E1, E2, E3, E4, E5, E6, E7, E8, E9, F0, F1, F2, F3, F4, F5, F6, F7, F8, F9, G0, G1, G2, G3, G4, G5, G6, G7, G8, G9, H0, H1, H2, H3, H4, H5, H6, H7, H8, H9, I0, I1, I2, I3, I4, I5, I6, I7, I8, I9, J0, J1, J2, J3, J4, J5, .int .i64 K, J7, J8, J9, K0, K1, K2, K3, K4, K5, K6, K7, K8, K9, L0, L1, L2, L3, L4, L5, L6, L7, L8, L9, M0, M1, M2, M3, M4, M5, M6, M7, M8, M9, N0, N1, N2, N3, N4, N5, N6, N7, N8, N9, O0, O1, O2, O3, O4, O5, O6, O7, O8, O9, P0, P1, P2, P3, P4, P5, P6, P7, P8, P9, Q0, Q1, Q2, Q3, Q4, Q5, Q6, Q7, Q8, Q9, R0, R1, R2, R3, R4, R5, R6, R7, R8, R9, S0, S1, S2, .bool bb, t174, t175, S6, S7, S8, S9, T0, T1, T2, T3, T4, T5, T6, T7, T8, T9, U0, U1, U2, U3, U4, U5, U6, U7, U8, U9, V0, V1, V2, V3, V4, V5, V6, V7, V8, V9, W0, W1, W2, W3, W4, W5, W6, W7, W8, W9, X0, X1, X2, X3, X4, X5, X6, X7, X8, X9, Y0, Y1, Y2, Y3, Y4, Y5, Y6], []⟩ wa) : Code.wp Try.prog (cutAt [1, 1, 1, 1, 1, 1, 1, 0, 1, 1, 1, 1, 0, 1, 1, 1, 1, 1, 0, 1, 1, 1, 1, 1, 1, 1, 1, 1, 1, 0] (Try.f8.body.getD .skip)) Q ⟨#[B0, B1, B2, B3, B4, B5, B6, B7, B8, B9, C0, C1, C2, C3, C4, C5, C6, C7, C8, C9, D0, D1, D2, D3, D4, D5, D6, D7, D8, D9, E0, E1, E2, E3, E4, E5, E6, E7, E8, E9, F0, F1, F2, F3, F4, F5, F6, F7, F8, F9, G0, G1, G2, G3, G4, G5, G6, G7, G8, G9, H0, H1, H2, H3, H4, H5, H6, H7, H8, H9, I0, I1, I2, I3, I4, I5, I6, I7, I8, I9, J0, J1, J2, J3, J4, J5, .int .i64 K, J7, J8, J9, K0, K1, K2, K3, K4, K5, K6, K7, K8, K9, L0, L1, L2, L3, L4, L5, L6, L7, L8, L9, M0, M1, M2, M3, M4, M5, M6, M7, M8, M9, N0, N1, N2, N3, N4, N5, N6, N7, N8, N9, O0, O1, O2, O3, O4, O5, O6, O7, O8, O9, P0, P1, P2, P3, P4, P5, P6, P7, P8, P9, Q0, Q1, Q2, Q3, Q4, Q5, Q6, Q7, Q8, Q9, R0, R1, R2, R3, R4, R5, R6, R7, R8, R9, S0, S1, S2, S3, S4, S5, S6, S7, S8, S9, T0, T1, T2, T3, T4, T5, T6, T7, T8, T9, U0, U1, U2, U3, U4, U5, U6, U7, U8, U9, V0, V1, V2, V3, V4, V5, V6, V7, V8, V9, W0, W1, W2, W3, W4, W5, W6, W7, W8, W9, X0, X1, X2, X3, X4, X5, X6, X7, X8, X9, Y0, Y1, Y2, Y3, Y4, Y5, Y6], []⟩ wa := by
  conv => arg 2; whnf
  obtain ⟨k12, hk12⟩ : ∃ t, (K == 12) = t := ⟨_, rfl⟩
  obtain ⟨k13, hk13⟩ : ∃ t, (K == 13) = t := ⟨_, rfl⟩
  rcases k12 with _ | _ <;> rcases k13 with _ | _
  all_goals
    go_wp2_with fail
    exact hQ _ _ _
set_option maxRecDepth 1000000 in
set_option maxHeartbeats 4000000 in
theorem dwrite  (w wa : World) (sz b p bw ga j : Nat) (kd x y : Int) (A1 : Option Addr) (n1 c1 : Nat) (l : List UInt8) (okD1 okR : Nat → Prop) (D : Dk) (v2 v3 : Value) (H : LF w wa sz b p bw ga j kd x y A1 n1 c1 l okD1 okR D v2 v3) {Q : Exit → Act → World → Prop} (hQ : ∀ (er : Int) (W : World) (t16 t101 t102 t103 t104 t105 t106 t107 t108 t109 t110 t111 t112 t113 t114 t115 t116 t117 t118 t119 t120 t121 : Value), DLoop w W b p bw sz (j + 1) → Q .normal ⟨#[.int .i64 (sz : Int), B1, B2, B3, B4, B5, B6, B7, B8, B9, .pointer (some ⟨p, 0, none⟩), .int .i64 er, .pointer (some ⟨bw, 0, none⟩), .int .i64 er, C4, .pointer (some ⟨ga, 0, none⟩), t16, C7, C8, C9, D0, D1, D2, D3, D4, D5, D6, D7, D8, D9, E0, E1, E2, E3, E4, E5, E6, E7, E8, E9, F0, F1, F2, F3, F4, F5, F6, F7, F8, F9, G0, G1, G2, G3, G4, G5, G6, G7, G8, G9, H0, H1, H2, H3, H4, H5, H6, H7, H8, H9, I0, I1, I2, I3, I4, I5, I6, I7, I8, I9, J0, J1, J2, J3, J4, J5, J6, J7, J8, J9, K0, K1, K2, K3, K4, K5, K6, K7, K8, K9, L0, t101, t102, t103, t104, t105, t106, t107, t108, t109, t110, t111, t112, t113, t114, t115, t116, t117, t118, t119, t120, t121, N2, N3, N4, N5, N6, N7, N8, N9, O0, O1, O2, O3, O4, O5, O6, O7, O8, O9, P0, P1, P2, P3, P4, P5, P6, P7, P8, P9, Q0, Q1, Q2, Q3, Q4, Q5, Q6, Q7, Q8, Q9, R0, R1, R2, R3, R4, R5, R6, R7, R8, R9, S0, S1, S2, S3, S4, S5, S6, S7, S8, S9, T0, T1, T2, T3, T4, T5, T6, T7, T8, T9, U0, U1, U2, U3, U4, U5, U6, U7, U8, U9, V0, V1, V2, V3, V4, V5, V6, V7, V8, V9, W0, W1, W2, W3, W4, W5, W6, W7, W8, W9, X0, X1, X2, X3, X4, X5, X6, X7, X8, X9, Y0, Y1, Y2, Y3, Y4, Y5, Y6], []⟩ W) : Code.wp Try.prog (cutAt [1, 1, 1, 1, 1, 1, 1, 0, 1, 1, 1, 1, 0, 1, 1, 1, 1, 1, 0, 1, 1, 1, 0] (Try.f8.body.getD .skip)) Q ⟨#[.int .i64 (sz : Int), B1, B2, B3, B4, B5, B6, B7, B8, B9, .pointer (some ⟨p, 0, none⟩), .int .i64 0, .pointer (some ⟨bw, 0, none⟩), .int .i64 0, C4, .pointer (some ⟨ga, 0, none⟩), C6, C7, C8, C9, D0, D1, D2, D3, D4, D5, D6, D7, D8, D9, E0, E1, E2, E3, E4, E5, E6, E7, E8, E9, F0, F1, F2, F3, F4, F5, F6, F7, F8, F9, G0, G1, G2, G3, G4, G5, G6, G7, G8, G9, H0, H1, H2, H3, H4, H5, H6, H7, H8, H9, I0, I1, I2, I3, I4, I5, I6, I7, I8, I9, J0, J1, J2, J3, J4, J5, J6, J7, J8, J9, K0, K1, K2, K3, K4, K5, K6, K7, K8, K9, L0, L1, L2, L3, L4, L5, L6, L7, L8, L9, M0, M1, M2, M3, M4, M5, M6, M7, M8, M9, N0, N1, N2, N3, N4, N5, N6, N7, N8, N9, O0, O1, O2, O3, O4, O5, O6, O7, O8, O9, P0, P1, P2, P3, P4, P5, P6, P7, P8, P9, Q0, Q1, Q2, Q3, Q4, Q5, Q6, Q7, Q8, Q9, R0, R1, R2, R3, R4, R5, R6, R7, R8, R9, S0, S1, S2, S3, S4, S5, S6, S7, S8, S9, T0, T1, T2, T3, T4, T5, T6, T7, T8, T9, U0, U1, U2, U3, U4, U5, U6, U7, U8, U9, V0, V1, V2, V3, V4, V5, V6, V7, V8, V9, W0, W1, W2, W3, W4, W5, W6, W7, W8, W9, X0, X1, X2, X3, X4, X5, X6, X7, X8, X9, Y0, Y1, Y2, Y3, Y4, Y5, Y6], []⟩ wa := by
  conv => arg 2; whnf
  obtain ⟨HB, hsz1, hsz2, bk, bx, by_, hc1, hc2, hDs, hDc, hDl, hj30, HS1, HB1, HAB, hSL1, HGA, HGB, HGR, hg2, hg3, hgw, hzw, hbo⟩ := H
  have HB := Lib.hid HB
  have hwf := HS1.disk.wf'
  have HS1 := Lib.hid HS1
  have HDS := Lib.hid hDs
  clear hDs
  have HB1 := Lib.hid HB1
  have HAB := Lib.hid HAB
  have hSL1 := Lib.hid hSL1
  have HGA := Lib.hid HGA
  have HGB := Lib.hid HGB
  have HGR := Lib.hid HGR
  have hS1 := HS1.out
  have hbs1 := hS1.bs_
  obtain ⟨x0, x1, x2, x3⟩ := HAB.out.cells
  go_wp2_with fail
  refine (full_all wa sz hsz1 (by omega) b A1 n1 c1 l hSL1.out hbs1 (by omega) (y == 1)).mono ?_
  rintro e wf ⟨mx, rfl, hmx, hrf, hbf⟩
  have hSf := hS1.below hbf
  have hBf := HB1.out.below hbf
  have hAf : ABox wf ga kd x y A1 n1 c1 := (hbf.block ga (blk_lt HAB.out)).trans HAB.out
  obtain ⟨okDf, hokf⟩ : ∃ o : Nat → Prop, o = fun k => okD1 k ∧ (k < wa.heap.size ∨ wf.heap.size ≤ k) := ⟨_, rfl⟩
  rw [← hokf] at hSf
  have HGAf : Hid (¬ okDf ga) := Lib.hid (by rw [hokf]; exact fun h => HGA.out h.1)
  have HGBf : Hid (¬ okDf bw) := Lib.hid (by rw [hokf]; exact fun h => HGB.out h.1)
  have hlf := hrf.lt
  have HGXf : Hid (¬ okDf wa.heap.size) := Lib.hid (by rw [hokf]; rintro ⟨_, h⟩; omega)
  have hbwa : bw < wa.heap.size := blk_lt HB1.out
  have hbff := hbf.size
  clear hokf hS1 x0 x1 x2 x3 hbf
  obtain ⟨gx, hgx⟩ : ∃ gx, wa.heap.size = gx := ⟨_, rfl⟩
  rw [hgx] at hrf HGXf hlf hbwa hbff ⊢
  clear hgx
  have hfl : (fullB sz l).length = sz := fullB_length _ _
  have hpre := hrf.pre (m := mx) (c := sz) (by rw [hfl]; exact hmx) hmx
  obtain ⟨x0, x1, x2, x3⟩ := hAf.cells
  have hS1 := hSf
  have HRF := Lib.hid hrf
  have HBF := Lib.hid hBf
  have HAF := Lib.hid hAf
  have hbs2 := hSf.bs_
  clear hrf hBf hAf
  have HPRE := Lib.hid hpre
  clear hpre
  go_wp2_with fail
  refine (dwrite_any hSf.disk hSf.frD hbs2 (by omega) (by omega) x _ _ _ _ _ HPRE.out (fun ad e => by
    injection e with e
    subst e
    exact ⟨fun h => HGXf.out (by rw [show gx = p from h]; exact hSf.disk.bp'.2), hlf⟩) (by omega)).mono ?_
  rintro e wb hP
  obtain ⟨rfl, hDb, hFb⟩ := hP.uni hSf.disk
  obtain ⟨_, r2b, r3b, hbsb, hbelb, hfrb⟩ := hSf.prog hDb hFb
  have hFz := hFb.size
  have hBb := HBF.out.fr hFb HGBf.out
  have hAb : ABox wb ga kd x y A1 n1 c1 := (hFb.2.2.2.2 ga (blk_lt HAF.out) HGAf.out).trans HAF.out
  have hrb := (HRF.out.fr' hFb HGXf.out).pre (m := mx) (c := sz) (by rw [hfl]; exact hmx) hmx
  have hcv := string_of_sl (P := Try.prog) Try.underlying30 Try.underlying5 Try.underlying9 hrb
  obtain ⟨xs, hxs⟩ : ∃ xs, (fullB sz l).take mx = xs := ⟨_, rfl⟩
  rw [hxs] at hcv hDb
  have hcv : (convert 30 9 (.slice (some ⟨gx, 0, none⟩) mx sz)).run Try.prog wb = .ok (.string (bs xs)) wb := hcv
  rw [hxs]
  obtain ⟨x0, x1, x2, x3⟩ := hAb.cells
  obtain ⟨y0, y1, y2, y3, y4, y5⟩ := hBb.cells
  clear hP hFb hrb hxs
  go_wp2_with fail
  refine (rwrite_any HB.out r2b r3b hbelb hwf (by omega) (by omega) x xs).mono ?_
  rintro e wc ⟨v2', v3', rfl, k1, k2, k3, k4⟩
  clear y0 y1 y2 y3 y4 y5 x0 x1 x2 x3 hcv
  have hle := sWrite_le D x xs HDS.out hDc hDl
  have hSc := DSt.refer hDb hS1.dis hS1.bd hfrb hbsb k1 (fun k h => h) k2 k3 k4
  have hBc := hBb.kept k2 hg2
  have hzb : bw < wb.heap.size := by have := hFz; omega
  obtain ⟨okD2, hok2⟩ : ∃ o : Nat → Prop, o = fun k => okDf k ∧ (k < wb.heap.size ∨ wc.heap.size ≤ k) := ⟨_, rfl⟩
  obtain ⟨okR2, hok3⟩ : ∃ o : Nat → Prop, o = fun k => okR k ∨ (wb.heap.size ≤ k ∧ k < wc.heap.size) := ⟨_, rfl⟩
  rw [← hok2, ← hok3] at hSc
  have hnD : ¬ okD2 bw := by rw [hok2]; exact fun h => HGBf.out h.1
  have hnR : ¬ okR2 bw := by rw [hok3]; rintro (h | h); exact hg2 h; omega
  clear hok2 hok3 k1 k2 k3 k4 hDb r2b r3b hbelb
  obtain ⟨y0, y1, y2, y3, y4, y5⟩ := hBc.cells
  have yf : ∀ i, wc.frozen? ⟨bw, i, none⟩ = false := fun i => hBc.free i
  obtain ⟨A6, c6, rfl, _⟩ := Kd.R_reads hSc.r2
  obtain ⟨A7, c7, rfl, _⟩ := Kd.R_reads hSc.r3
  rw [bl_length] at hSc ⊢
  rw [wl_length] at hSc ⊢
  obtain ⟨D8, h8⟩ : ∃ D8, (D.sWrite x xs).1 = D8 := ⟨_, rfl⟩
  rw [h8] at hSc hle ⊢
  clear h8
  obtain ⟨le1, le2, le3⟩ := hle
  have LE1 := Lib.hid le1
  clear le1
  have HSD := Lib.hid (hSc.set6 hnD hnR hg3 (.int .i64 (D8.size : Int)) (.int .i64 (D8.limit : Int)) (.slice A6 D8.good.length c6) (.slice A7 D8.loose.length c7) (.int .i64 D8.fails) (.int .i64 (D8.calls : Int)))
  have hBd := Lib.hid (hBc.all (s' := (D8.size : Int)) (l' := (D8.limit : Int)) (v2' := .slice A6 D8.good.length c6) (v3' := .slice A7 D8.loose.length c7) (f' := D8.fails) (c' := (D8.calls : Int)))
  clear hSc hBc hBb
  go_wp2_with fail
  exact ⟨⟨okD2, okR2, D8, _, _, HSD.out, LE1.out, le2, le3, hBd.out, hnD, hnR, hg3⟩⟩
set_option maxRecDepth 1000000 in
set_option maxHeartbeats 4000000 in
theorem dread  (w wa : World) (sz b p bw ga j : Nat) (kd x y : Int) (A1 : Option Addr) (n1 c1 : Nat) (l : List UInt8) (okD1 okR : Nat → Prop) (D : Dk) (v2 v3 : Value) (H : LF w wa sz b p bw ga j kd x y A1 n1 c1 l okD1 okR D v2 v3) {Q : Exit → Act → World → Prop} (hQ : ∀ (er : Int) (W : World) (t17 t18 t19 t20 t21 t126 t127 t128 t129 t130 t131 t132 t133 t134 t135 t136 t137 t138 t139 t140 t141 t142 t143 t144 t145 t146 t147 : Value), DLoop w W b p bw sz (j + 1) → Q .normal ⟨#[.int .i64 (sz : Int), B1, B2, B3, B4, B5, B6, B7, B8, B9, .pointer (some ⟨p, 0, none⟩), .int .i64 er, .pointer (some ⟨bw, 0, none⟩), .int .i64 er, C4, .pointer (some ⟨ga, 0, none⟩), C6, t17, t18, t19, t20, t21, D2, D3, D4, D5, D6, D7, D8, D9, E0, E1, E2, E3, E4, E5, E6, E7, E8, E9, F0, F1, F2, F3, F4, F5, F6, F7, F8, F9, G0, G1, G2, G3, G4, G5, G6, G7, G8, G9, H0, H1, H2, H3, H4, H5, H6, H7, H8, H9, I0, I1, I2, I3, I4, I5, I6, I7, I8, I9, J0, J1, J2, J3, J4, J5, J6, J7, J8, J9, K0, K1, K2, K3, K4, K5, K6, K7, K8, K9, L0, L1, L2, L3, L4, L5, L6, L7, L8, L9, M0, M1, M2, M3, M4, M5, M6, M7, M8, M9, N0, N1, N2, N3, N4, N5, t126, t127, t128, t129, t130, t131, t132, t133, t134, t135, t136, t137, t138, t139, t140, t141, t142, t143, t144, t145, t146, t147, P8, P9, Q0, Q1, Q2, Q3, Q4, Q5, Q6, Q7, Q8, Q9, R0, R1, R2, R3, R4, R5, R6, R7, R8, R9, S0, S1, S2, S3, S4, S5, S6, S7, S8, S9, T0, T1, T2, T3, T4, T5, T6, T7, T8, T9, U0, U1, U2, U3, U4, U5, U6, U7, U8, U9, V0, V1, V2, V3, V4, V5, V6, V7, V8, V9, W0, W1, W2, W3, W4, W5, W6, W7, W8, W9, X0, X1, X2, X3, X4, X5, X6, X7, X8, X9, Y0, Y1, Y2, Y3, Y4, Y5, Y6], []⟩ W) : Code.wp Try.prog (cutAt [1, 1, 1, 1, 1, 1, 1, 0, 1, 1, 1, 1, 0, 1, 1, 1, 1, 1, 0, 1, 1, 1, 1, 1, 0] (Try.f8.body.getD .skip)) Q ⟨#[.int .i64 (sz : Int), B1, B2, B3, B4, B5, B6, B7, B8, B9, .pointer (some ⟨p, 0, none⟩), .int .i64 0, .pointer (some ⟨bw, 0, none⟩), .int .i64 0, C4, .pointer (some ⟨ga, 0, none⟩), C6, C7, C8, C9, D0, D1, D2, D3, D4, D5, D6, D7, D8, D9, E0, E1, E2, E3, E4, E5, E6, E7, E8, E9, F0, F1, F2, F3, F4, F5, F6, F7, F8, F9, G0, G1, G2, G3, G4, G5, G6, G7, G8, G9, H0, H1, H2, H3, H4, H5, H6, H7, H8, H9, I0, I1, I2, I3, I4, I5, I6, I7, I8, I9, J0, J1, J2, J3, J4, J5, J6, J7, J8, J9, K0, K1, K2, K3, K4, K5, K6, K7, K8, K9, L0, L1, L2, L3, L4, L5, L6, L7, L8, L9, M0, M1, M2, M3, M4, M5, M6, M7, M8, M9, N0, N1, N2, N3, N4, N5, N6, N7, N8, N9, O0, O1, O2, O3, O4, O5, O6, O7, O8, O9, P0, P1, P2, P3, P4, P5, P6, P7, P8, P9, Q0, Q1, Q2, Q3, Q4, Q5, Q6, Q7, Q8, Q9, R0, R1, R2, R3, R4, R5, R6, R7, R8, R9, S0, S1, S2, S3, S4, S5, S6, S7, S8, S9, T0, T1, T2, T3, T4, T5, T6, T7, T8, T9, U0, U1, U2, U3, U4, U5, U6, U7, U8, U9, V0, V1, V2, V3, V4, V5, V6, V7, V8, V9, W0, W1, W2, W3, W4, W5, W6, W7, W8, W9, X0, X1, X2, X3, X4, X5, X6, X7, X8, X9, Y0, Y1, Y2, Y3, Y4, Y5, Y6], []⟩ wa := by
  conv => arg 2; whnf
  obtain ⟨HB, hsz1, hsz2, bk, bx, by_, hc1, hc2, hDs, hDc, hDl, hj30, HS1, HB1, HAB, hSL1, HGA, HGB, HGR, hg2, hg3, hgw, hzw, hbo⟩ := H
  have HB := Lib.hid HB
  have hwf := HS1.disk.wf'
  have HS1 := Lib.hid HS1
  have HDS := Lib.hid hDs
  clear hDs
  have HB1 := Lib.hid HB1
  have HAB := Lib.hid HAB
  have hSL1 := Lib.hid hSL1
  have HGA := Lib.hid HGA
  have HGB := Lib.hid HGB
  have HGR := Lib.hid HGR
  have hS1 := HS1.out
  have hbs1 := hS1.bs_
  obtain ⟨x0, x1, x2, x3⟩ := HAB.out.cells
  go_wp2_with fail
  clear x0 x1 x2 x3
  refine (dread_any hS1.disk hS1.frD hbs1 (by omega) (by omega) x).mono ?_
  rintro e wb hP
  obtain ⟨Ax, nx, cx, Bx, rfl, hslx, hnx, hAx, hDb, hFb⟩ := hP.uni2 hS1.disk hS1.frD
  obtain ⟨_, r2b, r3b, hbsb, hbelb, hfrb⟩ := hS1.prog hDb hFb
  have hFz := hFb.size
  have hBb := HB1.out.fr hFb HGB.out
  have hAb : ABox wb ga kd x y A1 n1 c1 := (hFb.2.2.2.2 ga (blk_lt HAB.out) HGA.out).trans HAB.out
  obtain ⟨x0, x1, x2, x3⟩ := hAb.cells
  obtain ⟨y0, y1, y2, y3, y4, y5⟩ := hBb.cells
  clear hP hFb
  have HSLX := Lib.hid hslx
  have HAX := Lib.hid hAx
  clear hslx hAx
  go_wp2_with fail
  refine (rread_any HB.out r2b r3b hbelb hwf (by omega) (by omega) x).mono ?_
  rintro e wc ⟨v2', v3', rfl, k1, k2, k3, k4⟩
  clear y0 y1 y2 y3 y4 y5 x0 x1 x2 x3
  have hle := sRead_le D x HDS.out hDc hDl
  have HKC := Lib.hid (fun ad (e : Ax = some ad) => k2.2 ad.block (HAX.out ad e).2 (fun h => hS1.dis _ h (HAX.out ad e).1))
  have HSLC := Lib.hid (HSLX.out.blk (w' := wc) (fun ad e => HKC.out ad e))
  have HNBW := Lib.hid (fun ad (e : Ax = some ad) => (show ad.block ≠ bw from fun h => HGB.out (by rw [← h]; exact (HAX.out ad e).1)))
  have HLTC := Lib.hid (fun ad (e : Ax = some ad) => (show ad.block < wc.heap.size from Nat.lt_of_lt_of_le (HAX.out ad e).2 k2.1))
  have hSc := DSt.refer hDb hS1.dis hS1.bd hfrb hbsb k1 (fun k h => h) k2 k3 k4
  have hBc := hBb.kept k2 hg2
  have hzb : bw < wb.heap.size := by have := hFz; omega
  obtain ⟨okD2, hok2⟩ : ∃ o : Nat → Prop, o = fun k => okD1 k ∧ (k < wb.heap.size ∨ wc.heap.size ≤ k) := ⟨_, rfl⟩
  obtain ⟨okR2, hok3⟩ : ∃ o : Nat → Prop, o = fun k => okR k ∨ (wb.heap.size ≤ k ∧ k < wc.heap.size) := ⟨_, rfl⟩
  rw [← hok2, ← hok3] at hSc
  have hnD : ¬ okD2 bw := by rw [hok2]; exact fun h => HGB.out h.1
  have hnR : ¬ okR2 bw := by rw [hok3]; rintro (h | h); exact hg2 h; omega
  clear hok2 hok3 k1 k2 k3 k4 hDb r2b r3b hbelb
  obtain ⟨y0, y1, y2, y3, y4, y5⟩ := hBc.cells
  have yf : ∀ i, wc.frozen? ⟨bw, i, none⟩ = false := fun i => hBc.free i
  obtain ⟨A6, c6, rfl, _⟩ := Kd.R_reads hSc.r2
  obtain ⟨A7, c7, rfl, _⟩ := Kd.R_reads hSc.r3
  rw [bl_length] at hSc ⊢
  rw [wl_length] at hSc ⊢
  obtain ⟨D8, h8⟩ : ∃ D8, (D.sRead x).1 = D8 := ⟨_, rfl⟩
  rw [h8] at hSc hle ⊢
  clear h8
  obtain ⟨le1, le2, le3⟩ := hle
  have LE1 := Lib.hid le1
  clear le1
  clear hBb
  obtain ⟨rl, hrl⟩ : ∃ rl, (D.sRead x).2.1 = rl := ⟨_, rfl⟩
  obtain ⟨er, her⟩ : ∃ er, (D.sRead x).2.2 = er := ⟨_, rfl⟩
  rw [hrl] at HSLC
  rw [hrl, her]
  clear hrl her HSLX
  have hzc : bw < wc.heap.size := blk_lt hBc
  have hSd := hSc.set6 hnD hnR hg3 (.int .i64 (D8.size : Int)) (.int .i64 (D8.limit : Int)) (.slice A6 D8.good.length c6) (.slice A7 D8.loose.length c7) (.int .i64 D8.fails) (.int .i64 (D8.calls : Int))
  have hBd0 := hBc.all (s' := (D8.size : Int)) (l' := (D8.limit : Int)) (v2' := .slice A6 D8.good.length c6) (v3' := .slice A7 D8.loose.length c7) (f' := D8.fails) (c' := (D8.calls : Int))
  have HSE := Lib.hid (hSd.below ((Below.refl _ _).alloc (Nat.le_refl _) (.cells #[.int .i64 (D8.size : Int), .int .i64 (D8.limit : Int), .slice A6 D8.good.length c6, .slice A7 D8.loose.length c7, .int .i64 D8.fails, .int .i64 (D8.calls : Int)] 47)))
  have HBE := Lib.hid (hBd0.below ((Below.refl _ _).alloc (Nat.le_refl _) (.cells #[.int .i64 (D8.size : Int), .int .i64 (D8.limit : Int), .slice A6 D8.good.length c6, .slice A7 D8.loose.length c7, .int .i64 D8.fails, .int .i64 (D8.calls : Int)] 47)))
  have hz6 : ((((((wc.setCell ⟨bw, 0, none⟩ (.int .i64 (D8.size : Int))).setCell ⟨bw, 1, none⟩ (.int .i64 (D8.limit : Int))).setCell ⟨bw, 2, none⟩ (.slice A6 D8.good.length c6)).setCell ⟨bw, 3, none⟩ (.slice A7 D8.loose.length c7)).setCell ⟨bw, 4, none⟩ (.int .i64 D8.fails)).setCell ⟨bw, 5, none⟩ (.int .i64 (D8.calls : Int))).heap.size = wc.heap.size := by simp
  have hSL6 := HSLC.out.blk (w' := ((((((wc.setCell ⟨bw, 0, none⟩ (.int .i64 (D8.size : Int))).setCell ⟨bw, 1, none⟩ (.int .i64 (D8.limit : Int))).setCell ⟨bw, 2, none⟩ (.slice A6 D8.good.length c6)).setCell ⟨bw, 3, none⟩ (.slice A7 D8.loose.length c7)).setCell ⟨bw, 4, none⟩ (.int .i64 D8.fails)).setCell ⟨bw, 5, none⟩ (.int .i64 (D8.calls : Int)))) (fun ad e => by
    iterate 6 rw [Below.heap_setCell _ _ _ _ (HNBW.out ad e)])
  have hSL7 := hSL6.blk (w' := ((((((wc.setCell ⟨bw, 0, none⟩ (.int .i64 (D8.size : Int))).setCell ⟨bw, 1, none⟩ (.int .i64 (D8.limit : Int))).setCell ⟨bw, 2, none⟩ (.slice A6 D8.good.length c6)).setCell ⟨bw, 3, none⟩ (.slice A7 D8.loose.length c7)).setCell ⟨bw, 4, none⟩ (.int .i64 D8.fails)).setCell ⟨bw, 5, none⟩ (.int .i64 (D8.calls : Int))).alloc (.cells #[.int .i64 (D8.size : Int), .int .i64 (D8.limit : Int), .slice A6 D8.good.length c6, .slice A7 D8.loose.length c7, .int .i64 D8.fails, .int .i64 (D8.calls : Int)] 47)) (fun ad e => Below.heap_alloc _ _ _ (by rw [hz6]; exact HLTC.out ad e))
  have hcv6 : (convert 30 9 (.slice Ax nx cx)).run Try.prog (((((((wc.setCell ⟨bw, 0, none⟩ (.int .i64 (D8.size : Int))).setCell ⟨bw, 1, none⟩ (.int .i64 (D8.limit : Int))).setCell ⟨bw, 2, none⟩ (.slice A6 D8.good.length c6)).setCell ⟨bw, 3, none⟩ (.slice A7 D8.loose.length c7)).setCell ⟨bw, 4, none⟩ (.int .i64 D8.fails)).setCell ⟨bw, 5, none⟩ (.int .i64 (D8.calls : Int))).alloc (.cells #[.int .i64 (D8.size : Int), .int .i64 (D8.limit : Int), .slice A6 D8.good.length c6, .slice A7 D8.loose.length c7, .int .i64 D8.fails, .int .i64 (D8.calls : Int)] 47)) = .ok (.string (bs rl)) (((((((wc.setCell ⟨bw, 0, none⟩ (.int .i64 (D8.size : Int))).setCell ⟨bw, 1, none⟩ (.int .i64 (D8.limit : Int))).setCell ⟨bw, 2, none⟩ (.slice A6 D8.good.length c6)).setCell ⟨bw, 3, none⟩ (.slice A7 D8.loose.length c7)).setCell ⟨bw, 4, none⟩ (.int .i64 D8.fails)).setCell ⟨bw, 5, none⟩ (.int .i64 (D8.calls : Int))).alloc (.cells #[.int .i64 (D8.size : Int), .int .i64 (D8.limit : Int), .slice A6 D8.good.length c6, .slice A7 D8.loose.length c7, .int .i64 D8.fails, .int .i64 (D8.calls : Int)] 47)) := string_of_sl (P := Try.prog) Try.underlying30 Try.underlying5 Try.underlying9 hSL7
  obtain ⟨okD3, hok4⟩ : ∃ o : Nat → Prop, o = fun k => okD2 k ∧ (k < ((((((wc.setCell ⟨bw, 0, none⟩ (.int .i64 (D8.size : Int))).setCell ⟨bw, 1, none⟩ (.int .i64 (D8.limit : Int))).setCell ⟨bw, 2, none⟩ (.slice A6 D8.good.length c6)).setCell ⟨bw, 3, none⟩ (.slice A7 D8.loose.length c7)).setCell ⟨bw, 4, none⟩ (.int .i64 D8.fails)).setCell ⟨bw, 5, none⟩ (.int .i64 (D8.calls : Int))).heap.size ∨ (((((((wc.setCell ⟨bw, 0, none⟩ (.int .i64 (D8.size : Int))).setCell ⟨bw, 1, none⟩ (.int .i64 (D8.limit : Int))).setCell ⟨bw, 2, none⟩ (.slice A6 D8.good.length c6)).setCell ⟨bw, 3, none⟩ (.slice A7 D8.loose.length c7)).setCell ⟨bw, 4, none⟩ (.int .i64 D8.fails)).setCell ⟨bw, 5, none⟩ (.int .i64 (D8.calls : Int))).alloc (.cells #[.int .i64 (D8.size : Int), .int .i64 (D8.limit : Int), .slice A6 D8.good.length c6, .slice A7 D8.loose.length c7, .int .i64 D8.fails, .int .i64 (D8.calls : Int)] 47)).heap.size ≤ k) := ⟨_, rfl⟩
  rw [← hok4] at HSE
  have hnD4 : ¬ okD3 bw := by rw [hok4]; exact fun h => hnD h.1
  clear hSL6 hSL7 hok4 hz6 hSd hBd0 hBc hSc
  go_wp2_with fail
  exact ⟨⟨okD3, okR2, D8, _, _, HSE.out, LE1.out, le2, le3, HBE.out, hnD4, hnR, hg3⟩⟩
set_option maxRecDepth 1000000 in
set_option maxHeartbeats 4000000 in
theorem dgrow  (w wa : World) (sz b p bw ga j : Nat) (kd x y : Int) (A1 : Option Addr) (n1 c1 : Nat) (l : List UInt8) (okD1 okR : Nat → Prop) (D : Dk) (v2 v3 : Value) (H : LF w wa sz b p bw ga j kd x y A1 n1 c1 l okD1 okR D v2 v3) {Q : Exit → Act → World → Prop} (hQ : ∀ (er : Int) (W : World) (t151 t152 t153 t154 t155 t156 t157 t158 t159 t160 t161 : Value), DLoop w W b p bw sz (j + 1) → Q .normal ⟨#[.int .i64 (sz : Int), B1, B2, B3, B4, B5, B6, B7, B8, B9, .pointer (some ⟨p, 0, none⟩), .int .i64 er, .pointer (some ⟨bw, 0, none⟩), .int .i64 er, C4, .pointer (some ⟨ga, 0, none⟩), C6, C7, C8, C9, D0, D1, D2, D3, D4, D5, D6, D7, D8, D9, E0, E1, E2, E3, E4, E5, E6, E7, E8, E9, F0, F1, F2, F3, F4, F5, F6, F7, F8, F9, G0, G1, G2, G3, G4, G5, G6, G7, G8, G9, H0, H1, H2, H3, H4, H5, H6, H7, H8, H9, I0, I1, I2, I3, I4, I5, I6, I7, I8, I9, J0, J1, J2, J3, J4, J5, J6, J7, J8, J9, K0, K1, K2, K3, K4, K5, K6, K7, K8, K9, L0, L1, L2, L3, L4, L5, L6, L7, L8, L9, M0, M1, M2, M3, M4, M5, M6, M7, M8, M9, N0, N1, N2, N3, N4, N5, N6, N7, N8, N9, O0, O1, O2, O3, O4, O5, O6, O7, O8, O9, P0, P1, P2, P3, P4, P5, P6, P7, P8, P9, Q0, t151, t152, t153, t154, t155, t156, t157, t158, t159, t160, t161, R2, R3, R4, R5, R6, R7, R8, R9, S0, S1, S2, S3, S4, S5, S6, S7, S8, S9, T0, T1, T2, T3, T4, T5, T6, T7, T8, T9, U0, U1, U2, U3, U4, U5, U6, U7, U8, U9, V0, V1, V2, V3, V4, V5, V6, V7, V8, V9, W0, W1, W2, W3, W4, W5, W6, W7, W8, W9, X0, X1, X2, X3, X4, X5, X6, X7, X8, X9, Y0, Y1, Y2, Y3, Y4, Y5, Y6], []⟩ W) : Code.wp Try.prog (cutAt [1, 1, 1, 1, 1, 1, 1, 0, 1, 1, 1, 1, 0, 1, 1, 1, 1, 1, 0, 1, 1, 1, 1, 1, 1, 1, 0] (Try.f8.body.getD .skip)) Q ⟨#[.int .i64 (sz : Int), B1, B2, B3, B4, B5, B6, B7, B8, B9, .pointer (some ⟨p, 0, none⟩), .int .i64 0, .pointer (some ⟨bw, 0, none⟩), .int .i64 0, C4, .pointer (some ⟨ga, 0, none⟩), C6, C7, C8, C9, D0, D1, D2, D3, D4, D5, D6, D7, D8, D9, E0, E1, E2, E3, E4, E5, E6, E7, E8, E9, F0, F1, F2, F3, F4, F5, F6, F7, F8, F9, G0, G1, G2, G3, G4, G5, G6, G7, G8, G9, H0, H1, H2, H3, H4, H5, H6, H7, H8, H9, I0, I1, I2, I3, I4, I5, I6, I7, I8, I9, J0, J1, J2, J3, J4, J5, J6, J7, J8, J9, K0, K1, K2, K3, K4, K5, K6, K7, K8, K9, L0, L1, L2, L3, L4, L5, L6, L7, L8, L9, M0, M1, M2, M3, M4, M5, M6, M7, M8, M9, N0, N1, N2, N3, N4, N5, N6, N7, N8, N9, O0, O1, O2, O3, O4, O5, O6, O7, O8, O9, P0, P1, P2, P3, P4, P5, P6, P7, P8, P9, Q0, Q1, Q2, Q3, Q4, Q5, Q6, Q7, Q8, Q9, R0, R1, R2, R3, R4, R5, R6, R7, R8, R9, S0, S1, S2, S3, S4, S5, S6, S7, S8, S9, T0, T1, T2, T3, T4, T5, T6, T7, T8, T9, U0, U1, U2, U3, U4, U5, U6, U7, U8, U9, V0, V1, V2, V3, V4, V5, V6, V7, V8, V9, W0, W1, W2, W3, W4, W5, W6, W7, W8, W9, X0, X1, X2, X3, X4, X5, X6, X7, X8, X9, Y0, Y1, Y2, Y3, Y4, Y5, Y6], []⟩ wa := by
  conv => arg 2; whnf
  obtain ⟨HB, hsz1, hsz2, bk, bx, by_, hc1, hc2, hDs, hDc, hDl, hj30, HS1, HB1, HAB, hSL1, HGA, HGB, HGR, hg2, hg3, hgw, hzw, hbo⟩ := H
  have HB := Lib.hid HB
  have hwf := HS1.disk.wf'
  have HS1 := Lib.hid HS1
  have HDS := Lib.hid hDs
  clear hDs
  have HB1 := Lib.hid HB1
  have HAB := Lib.hid HAB
  have hSL1 := Lib.hid hSL1
  have HGA := Lib.hid HGA
  have HGB := Lib.hid HGB
  have HGR := Lib.hid HGR
  have hS1 := HS1.out
  have hbs1 := hS1.bs_
  obtain ⟨x0, x1, x2, x3⟩ := HAB.out.cells
  go_wp2_with fail
  clear x0 x1 x2 x3
  refine (dgrow_any hS1.disk hS1.frD hbs1 (by omega) x (by omega)).mono ?_
  rintro e wb hP
  obtain ⟨rfl, hDb, hFb⟩ := hP.uni hS1.disk
  obtain ⟨_, r2b, r3b, hbsb, hbelb, hfrb⟩ := hS1.prog hDb hFb
  have hFz := hFb.size
  have hBb := HB1.out.fr hFb HGB.out
  have hAb : ABox wb ga kd x y A1 n1 c1 := (hFb.2.2.2.2 ga (blk_lt HAB.out) HGA.out).trans HAB.out
  obtain ⟨x0, x1, x2, x3⟩ := hAb.cells
  obtain ⟨y0, y1, y2, y3, y4, y5⟩ := hBb.cells
  clear hP
  clear hFb
  go_wp2_with fail
  refine (rgrow_any HB.out r2b r3b hbelb hwf (by omega) x).mono ?_
  rintro e wc ⟨v2', v3', rfl, k1, k2, k3, k4⟩
  clear y0 y1 y2 y3 y4 y5 x0 x1 x2 x3
  have hle := sGrow_le D x HDS.out hDc hDl
  have hSc := DSt.refer hDb hS1.dis hS1.bd hfrb hbsb k1 (fun k h => h) k2 k3 k4
  have hBc := hBb.kept k2 hg2
  have hzb : bw < wb.heap.size := by have := hFz; omega
  obtain ⟨okD2, hok2⟩ : ∃ o : Nat → Prop, o = fun k => okD1 k ∧ (k < wb.heap.size ∨ wc.heap.size ≤ k) := ⟨_, rfl⟩
  obtain ⟨okR2, hok3⟩ : ∃ o : Nat → Prop, o = fun k => okR k ∨ (wb.heap.size ≤ k ∧ k < wc.heap.size) := ⟨_, rfl⟩
  rw [← hok2, ← hok3] at hSc
  have hnD : ¬ okD2 bw := by rw [hok2]; exact fun h => HGB.out h.1
  have hnR : ¬ okR2 bw := by rw [hok3]; rintro (h | h); exact hg2 h; omega
  clear hok2 hok3 k1 k2 k3 k4 hDb r2b r3b hbelb
  obtain ⟨y0, y1, y2, y3, y4, y5⟩ := hBc.cells
  have yf : ∀ i, wc.frozen? ⟨bw, i, none⟩ = false := fun i => hBc.free i
  obtain ⟨A6, c6, rfl, _⟩ := Kd.R_reads hSc.r2
  obtain ⟨A7, c7, rfl, _⟩ := Kd.R_reads hSc.r3
  rw [bl_length] at hSc ⊢
  rw [wl_length] at hSc ⊢
  obtain ⟨D8, h8⟩ : ∃ D8, (D.sGrow x).1 = D8 := ⟨_, rfl⟩
  rw [h8] at hSc hle ⊢
  clear h8
  obtain ⟨le1, le2, le3⟩ := hle
  have LE1 := Lib.hid le1
  clear le1
  have HSD := Lib.hid (hSc.set6 hnD hnR hg3 (.int .i64 (D8.size : Int)) (.int .i64 (D8.limit : Int)) (.slice A6 D8.good.length c6) (.slice A7 D8.loose.length c7) (.int .i64 D8.fails) (.int .i64 (D8.calls : Int)))
  have hBd := Lib.hid (hBc.all (s' := (D8.size : Int)) (l' := (D8.limit : Int)) (v2' := .slice A6 D8.good.length c6) (v3' := .slice A7 D8.loose.length c7) (f' := D8.fails) (c' := (D8.calls : Int)))
  clear hSc hBc hBb
  go_wp2_with fail
  exact ⟨⟨okD2, okR2, D8, _, _, HSD.out, LE1.out, le2, le3, hBd.out, hnD, hnR, hg3⟩⟩
set_option maxRecDepth 1000000 in
set_option maxHeartbeats 4000000 in
theorem dsync  (w wa : World) (sz b p bw ga j : Nat) (kd x y : Int) (A1 : Option Addr) (n1 c1 : Nat) (l : List UInt8) (okD1 okR : Nat → Prop) (D : Dk) (v2 v3 : Value) (H : LF w wa sz b p bw ga j kd x y A1 n1 c1 l okD1 okR D v2 v3) {Q : Exit → Act → World → Prop} (hQ : ∀ (er : Int) (W : World) (t166 t167 t168 t169 t170 t171 t172 : Value), DLoop w W b p bw sz (j + 1) → Q .normal ⟨#[.int .i64 (sz : Int), B1, B2, B3, B4, B5, B6, B7, B8, B9, .pointer (some ⟨p, 0, none⟩), .int .i64 er, .pointer (some ⟨bw, 0, none⟩), .int .i64 er, C4, .pointer (some ⟨ga, 0, none⟩), C6, C7, C8, C9, D0, D1, D2, D3, D4, D5, D6, D7, D8, D9, E0, E1, E2, E3, E4, E5, E6, E7, E8, E9, F0, F1, F2, F3, F4, F5, F6, F7, F8, F9, G0, G1, G2, G3, G4, G5, G6, G7, G8, G9, H0, H1, H2, H3, H4, H5, H6, H7, H8, H9, I0, I1, I2, I3, I4, I5, I6, I7, I8, I9, J0, J1, J2, J3, J4, J5, J6, J7, J8, J9, K0, K1, K2, K3, K4, K5, K6, K7, K8, K9, L0, L1, L2, L3, L4, L5, L6, L7, L8, L9, M0, M1, M2, M3, M4, M5, M6, M7, M8, M9, N0, N1, N2, N3, N4, N5, N6, N7, N8, N9, O0, O1, O2, O3, O4, O5, O6, O7, O8, O9, P0, P1, P2, P3, P4, P5, P6, P7, P8, P9, Q0, Q1, Q2, Q3, Q4, Q5, Q6, Q7, Q8, Q9, R0, R1, R2, R3, R4, R5, t166, t167, t168, t169, t170, t171, t172, S3, S4, S5, S6, S7, S8, S9, T0, T1, T2, T3, T4, T5, T6, T7, T8, T9, U0, U1, U2, U3, U4, U5, U6, U7, U8, U9, V0, V1, V2, V3, V4, V5, V6, V7, V8, V9, W0, W1, W2, W3, W4, W5, W6, W7, W8, W9, X0, X1, X2, X3, X4, X5, X6, X7, X8, X9, Y0, Y1, Y2, Y3, Y4, Y5, Y6], []⟩ W) : Code.wp Try.prog (cutAt [1, 1, 1, 1, 1, 1, 1, 0, 1, 1, 1, 1, 0, 1, 1, 1, 1, 1, 0, 1, 1, 1, 1, 1, 1, 1, 1, 1, 0] (Try.f8.body.getD .skip)) Q ⟨#[.int .i64 (sz : Int), B1, B2, B3, B4, B5, B6, B7, B8, B9, .pointer (some ⟨p, 0, none⟩), .int .i64 0, .pointer (some ⟨bw, 0, none⟩), .int .i64 0, C4, .pointer (some ⟨ga, 0, none⟩), C6, C7, C8, C9, D0, D1, D2, D3, D4, D5, D6, D7, D8, D9, E0, E1, E2, E3, E4, E5, E6, E7, E8, E9, F0, F1, F2, F3, F4, F5, F6, F7, F8, F9, G0, G1, G2, G3, G4, G5, G6, G7, G8, G9, H0, H1, H2, H3, H4, H5, H6, H7, H8, H9, I0, I1, I2, I3, I4, I5, I6, I7, I8, I9, J0, J1, J2, J3, J4, J5, J6, J7, J8, J9, K0, K1, K2, K3, K4, K5, K6, K7, K8, K9, L0, L1, L2, L3, L4, L5, L6, L7, L8, L9, M0, M1, M2, M3, M4, M5, M6, M7, M8, M9, N0, N1, N2, N3, N4, N5, N6, N7, N8, N9, O0, O1, O2, O3, O4, O5, O6, O7, O8, O9, P0, P1, P2, P3, P4, P5, P6, P7, P8, P9, Q0, Q1, Q2, Q3, Q4, Q5, Q6, Q7, Q8, Q9, R0, R1, R2, R3, R4, R5, R6, R7, R8, R9, S0, S1, S2, S3, S4, S5, S6, S7, S8, S9, T0, T1, T2, T3, T4, T5, T6, T7, T8, T9, U0, U1, U2, U3, U4, U5, U6, U7, U8, U9, V0, V1, V2, V3, V4, V5, V6, V7, V8, V9, W0, W1, W2, W3, W4, W5, W6, W7, W8, W9, X0, X1, X2, X3, X4, X5, X6, X7, X8, X9, Y0, Y1, Y2, Y3, Y4, Y5, Y6], []⟩ wa := by
  conv => arg 2; whnf
  obtain ⟨HB, hsz1, hsz2, bk, bx, by_, hc1, hc2, hDs, hDc, hDl, hj30, HS1, HB1, HAB, hSL1, HGA, HGB, HGR, hg2, hg3, hgw, hzw, hbo⟩ := H
  have HB := Lib.hid HB
  have hwf := HS1.disk.wf'
  have HS1 := Lib.hid HS1
  have HDS := Lib.hid hDs
  clear hDs
  have HB1 := Lib.hid HB1
  have HAB := Lib.hid HAB
  have hSL1 := Lib.hid hSL1
  have HGA := Lib.hid HGA
  have HGB := Lib.hid HGB
  have HGR := Lib.hid HGR
  have hS1 := HS1.out
  have hbs1 := hS1.bs_
  obtain ⟨x0, x1, x2, x3⟩ := HAB.out.cells
  go_wp2_with fail
  clear x0 x1 x2 x3
  refine (dsync_any hS1.disk hbs1 (by omega) (by omega)).mono ?_
  rintro e wb hP
  obtain ⟨rfl, hDb, hFb⟩ := hP.uni
  obtain ⟨_, r2b, r3b, hbsb, hbelb, hfrb⟩ := hS1.prog hDb hFb
  have hFz := hFb.size
  have hBb := HB1.out.fr hFb HGB.out
  have hAb : ABox wb ga kd x y A1 n1 c1 := (hFb.2.2.2.2 ga (blk_lt HAB.out) HGA.out).trans HAB.out
  obtain ⟨x0, x1, x2, x3⟩ := hAb.cells
  obtain ⟨y0, y1, y2, y3, y4, y5⟩ := hBb.cells
  clear hP
  clear hFb
  go_wp2_with fail
  refine (rsync_any HB.out r2b r3b hbelb hwf (by omega) (by omega)).mono ?_
  rintro e wc ⟨v2', v3', rfl, k1, k2, k3, k4⟩
  clear y0 y1 y2 y3 y4 y5 x0 x1 x2 x3
  have hle := sSync_le D HDS.out hDc hDl
  have hSc := DSt.refer hDb hS1.dis hS1.bd hfrb hbsb k1 (fun k h => h) k2 k3 k4
  have hBc := hBb.kept k2 hg2
  have hzb : bw < wb.heap.size := by have := hFz; omega
  obtain ⟨okD2, hok2⟩ : ∃ o : Nat → Prop, o = fun k => okD1 k ∧ (k < wb.heap.size ∨ wc.heap.size ≤ k) := ⟨_, rfl⟩
  obtain ⟨okR2, hok3⟩ : ∃ o : Nat → Prop, o = fun k => okR k ∨ (wb.heap.size ≤ k ∧ k < wc.heap.size) := ⟨_, rfl⟩
  rw [← hok2, ← hok3] at hSc
  have hnD : ¬ okD2 bw := by rw [hok2]; exact fun h => HGB.out h.1
  have hnR : ¬ okR2 bw := by rw [hok3]; rintro (h | h); exact hg2 h; omega
  clear hok2 hok3 k1 k2 k3 k4 hDb r2b r3b hbelb
  obtain ⟨y0, y1, y2, y3, y4, y5⟩ := hBc.cells
  have yf : ∀ i, wc.frozen? ⟨bw, i, none⟩ = false := fun i => hBc.free i
  obtain ⟨A6, c6, rfl, _⟩ := Kd.R_reads hSc.r2
  obtain ⟨A7, c7, rfl, _⟩ := Kd.R_reads hSc.r3
  rw [bl_length] at hSc ⊢
  rw [wl_length] at hSc ⊢
  obtain ⟨D8, h8⟩ : ∃ D8, D.sSync.1 = D8 := ⟨_, rfl⟩
  rw [h8] at hSc hle ⊢
  clear h8
  obtain ⟨le1, le2, le3⟩ := hle
  have LE1 := Lib.hid le1
  clear le1
  have HSD := Lib.hid (hSc.set6 hnD hnR hg3 (.int .i64 (D8.size : Int)) (.int .i64 (D8.limit : Int)) (.slice A6 D8.good.length c6) (.slice A7 D8.loose.length c7) (.int .i64 D8.fails) (.int .i64 (D8.calls : Int)))
  have hBd := Lib.hid (hBc.all (s' := (D8.size : Int)) (l' := (D8.limit : Int)) (v2' := .slice A6 D8.good.length c6) (v3' := .slice A7 D8.loose.length c7) (f' := D8.fails) (c' := (D8.calls : Int)))
  clear hSc hBc hBb
  go_wp2_with fail
  exact ⟨⟨okD2, okR2, D8, _, _, HSD.out, LE1.out, le2, le3, hBd.out, hnD, hnR, hg3⟩⟩
set_option maxRecDepth 1000000 in
set_option maxHeartbeats 4000000 in
theorem dfail  (w wa : World) (sz b p bw ga j : Nat) (kd x y : Int) (A1 : Option Addr) (n1 c1 : Nat) (l : List UInt8) (okD1 okR : Nat → Prop) (D : Dk) (v2 v3 : Value) (H : LF w wa sz b p bw ga j kd x y A1 n1 c1 l okD1 okR D v2 v3) {Q : Exit → Act → World → Prop} (hQ : ∀ (er : Int) (W : World) (t176 t177 t178 t179 t180 t181 t182 t183 : Value), DLoop w W b p bw sz (j + 1) → Q .normal ⟨#[.int .i64 (sz : Int), B1, B2, B3, B4, B5, B6, B7, B8, B9, .pointer (some ⟨p, 0, none⟩), .int .i64 er, .pointer (some ⟨bw, 0, none⟩), .int .i64 er, C4, .pointer (some ⟨ga, 0, none⟩), C6, C7, C8, C9, D0, D1, D2, D3, D4, D5, D6, D7, D8, D9, E0, E1, E2, E3, E4, E5, E6, E7, E8, E9, F0, F1, F2, F3, F4, F5, F6, F7, F8, F9, G0, G1, G2, G3, G4, G5, G6, G7, G8, G9, H0, H1, H2, H3, H4, H5, H6, H7, H8, H9, I0, I1, I2, I3, I4, I5, I6, I7, I8, I9, J0, J1, J2, J3, J4, J5, J6, J7, J8, J9, K0, K1, K2, K3, K4, K5, K6, K7, K8, K9, L0, L1, L2, L3, L4, L5, L6, L7, L8, L9, M0, M1, M2, M3, M4, M5, M6, M7, M8, M9, N0, N1, N2, N3, N4, N5, N6, N7, N8, N9, O0, O1, O2, O3, O4, O5, O6, O7, O8, O9, P0, P1, P2, P3, P4, P5, P6, P7, P8, P9, Q0, Q1, Q2, Q3, Q4, Q5, Q6, Q7, Q8, Q9, R0, R1, R2, R3, R4, R5, R6, R7, R8, R9, S0, S1, S2, S3, S4, S5, t176, t177, t178, t179, t180, t181, t182, t183, T4, T5, T6, T7, T8, T9, U0, U1, U2, U3, U4, U5, U6, U7, U8, U9, V0, V1, V2, V3, V4, V5, V6, V7, V8, V9, W0, W1, W2, W3, W4, W5, W6, W7, W8, W9, X0, X1, X2, X3, X4, X5, X6, X7, X8, X9, Y0, Y1, Y2, Y3, Y4, Y5, Y6], []⟩ W) : Code.wp Try.prog (cutAt [1, 1, 1, 1, 1, 1, 1, 0, 1, 1, 1, 1, 0, 1, 1, 1, 1, 1, 0, 1, 1, 1, 1, 1, 1, 1, 1, 1, 1, 1, 0] (Try.f8.body.getD .skip)) Q ⟨#[.int .i64 (sz : Int), B1, B2, B3, B4, B5, B6, B7, B8, B9, .pointer (some ⟨p, 0, none⟩), .int .i64 0, .pointer (some ⟨bw, 0, none⟩), .int .i64 0, C4, .pointer (some ⟨ga, 0, none⟩), C6, C7, C8, C9, D0, D1, D2, D3, D4, D5, D6, D7, D8, D9, E0, E1, E2, E3, E4, E5, E6, E7, E8, E9, F0, F1, F2, F3, F4, F5, F6, F7, F8, F9, G0, G1, G2, G3, G4, G5, G6, G7, G8, G9, H0, H1, H2, H3, H4, H5, H6, H7, H8, H9, I0, I1, I2, I3, I4, I5, I6, I7, I8, I9, J0, J1, J2, J3, J4, J5, J6, J7, J8, J9, K0, K1, K2, K3, K4, K5, K6, K7, K8, K9, L0, L1, L2, L3, L4, L5, L6, L7, L8, L9, M0, M1, M2, M3, M4, M5, M6, M7, M8, M9, N0, N1, N2, N3, N4, N5, N6, N7, N8, N9, O0, O1, O2, O3, O4, O5, O6, O7, O8, O9, P0, P1, P2, P3, P4, P5, P6, P7, P8, P9, Q0, Q1, Q2, Q3, Q4, Q5, Q6, Q7, Q8, Q9, R0, R1, R2, R3, R4, R5, R6, R7, R8, R9, S0, S1, S2, S3, S4, S5, S6, S7, S8, S9, T0, T1, T2, T3, T4, T5, T6, T7, T8, T9, U0, U1, U2, U3, U4, U5, U6, U7, U8, U9, V0, V1, V2, V3, V4, V5, V6, V7, V8, V9, W0, W1, W2, W3, W4, W5, W6, W7, W8, W9, X0, X1, X2, X3, X4, X5, X6, X7, X8, X9, Y0, Y1, Y2, Y3, Y4, Y5, Y6], []⟩ wa := by
  conv => arg 2; whnf
  obtain ⟨HB, hsz1, hsz2, bk, bx, by_, hc1, hc2, hDs, hDc, hDl, hj30, HS1, HB1, HAB, hSL1, HGA, HGB, HGR, hg2, hg3, hgw, hzw, hbo⟩ := H
  have HB := Lib.hid HB
  have hwf := HS1.disk.wf'
  have HS1 := Lib.hid HS1
  have HDS := Lib.hid hDs
  clear hDs
  have HB1 := Lib.hid HB1
  have HAB := Lib.hid HAB
  have hSL1 := Lib.hid hSL1
  have HGA := Lib.hid HGA
  have HGB := Lib.hid HGB
  have HGR := Lib.hid HGR
  have hS1 := HS1.out
  have hbs1 := hS1.bs_
  obtain ⟨x0, x1, x2, x3⟩ := HAB.out.cells
  go_wp2_with fail
  clear x0 x1 x2 x3
  refine (dfail_any hS1.disk y (by omega)).mono ?_
  rintro e wb ⟨rfl, hDb, hAtb⟩
  have hFb := Fr.of_at hAtb hS1.disk.bp'.2
  obtain ⟨_, r2b, r3b, hbsb, hbelb, hfrb⟩ := hS1.prog hDb hFb
  have hFz := hFb.size
  have hBb := HB1.out.fr hFb HGB.out
  have hAb : ABox wb ga kd x y A1 n1 c1 := (hFb.2.2.2.2 ga (blk_lt HAB.out) HGA.out).trans HAB.out
  obtain ⟨x0, x1, x2, x3⟩ := hAb.cells
  obtain ⟨y0, y1, y2, y3, y4, y5⟩ := hBb.cells
  clear hFb hAtb
  go_wp2_with fail
  refine (rfail_any HB.out r2b r3b hbelb y).mono ?_
  rintro e wc ⟨v2', v3', rfl, k1, k2, k3, k4⟩
  clear y0 y1 y2 y3 y4 y5 x0 x1 x2 x3
  have hle : (D.failed y).size = sz ∧ (D.failed y).calls ≤ j + 1 ∧ (D.failed y).loose.length ≤ j + 1 := ⟨HDS.out, by show D.calls ≤ _; omega, by show D.loose.length ≤ _; omega⟩
  have hSc := DSt.refer hDb hS1.dis hS1.bd hfrb hbsb k1 (fun k h => h) k2 k3 k4
  have hBc := hBb.kept k2 hg2
  have hzb : bw < wb.heap.size := by have := hFz; omega
  obtain ⟨okD2, hok2⟩ : ∃ o : Nat → Prop, o = fun k => okD1 k ∧ (k < wb.heap.size ∨ wc.heap.size ≤ k) := ⟨_, rfl⟩
  obtain ⟨okR2, hok3⟩ : ∃ o : Nat → Prop, o = fun k => okR k ∨ (wb.heap.size ≤ k ∧ k < wc.heap.size) := ⟨_, rfl⟩
  rw [← hok2, ← hok3] at hSc
  have hnD : ¬ okD2 bw := by rw [hok2]; exact fun h => HGB.out h.1
  have hnR : ¬ okR2 bw := by rw [hok3]; rintro (h | h); exact hg2 h; omega
  clear hok2 hok3 k1 k2 k3 k4 hDb r2b r3b hbelb
  obtain ⟨y0, y1, y2, y3, y4, y5⟩ := hBc.cells
  have yf : ∀ i, wc.frozen? ⟨bw, i, none⟩ = false := fun i => hBc.free i
  obtain ⟨A6, c6, rfl, _⟩ := Kd.R_reads hSc.r2
  obtain ⟨A7, c7, rfl, _⟩ := Kd.R_reads hSc.r3
  rw [bl_length] at hSc ⊢
  rw [wl_length] at hSc ⊢
  obtain ⟨D8, h8⟩ : ∃ D8, D.failed y = D8 := ⟨_, rfl⟩
  rw [h8] at hSc hle ⊢
  clear h8
  obtain ⟨le1, le2, le3⟩ := hle
  have LE1 := Lib.hid le1
  clear le1
  have HSD := Lib.hid (hSc.set6 hnD hnR hg3 (.int .i64 (D8.size : Int)) (.int .i64 (D8.limit : Int)) (.slice A6 D8.good.length c6) (.slice A7 D8.loose.length c7) (.int .i64 D8.fails) (.int .i64 (D8.calls : Int)))
  have hBd := Lib.hid (hBc.all (s' := (D8.size : Int)) (l' := (D8.limit : Int)) (v2' := .slice A6 D8.good.length c6) (v3' := .slice A7 D8.loose.length c7) (f' := D8.fails) (c' := (D8.calls : Int)))
  clear hSc hBc hBb
  go_wp2_with fail
  exact ⟨⟨okD2, okR2, D8, _, _, HSD.out, LE1.out, le2, le3, hBd.out, hnD, hnR, hg3⟩⟩
set_option maxRecDepth 1000000 in
set_option maxHeartbeats 4000000 in
theorem dcrash  (w wa : World) (sz b p bw ga j : Nat) (kd x y : Int) (A1 : Option Addr) (n1 c1 : Nat) (l : List UInt8) (okD1 okR : Nat → Prop) (D : Dk) (v2 v3 : Value) (H : LF w wa sz b p bw ga j kd x y A1 n1 c1 l okD1 okR D v2 v3) {Q : Exit → Act → World → Prop} (hQ : ∀ (er : Int) (W : World) (t87 t88 t89 t90 t91 t92 t93 t94 t95 : Value), DLoop w W b p bw sz (j + 1) → Q .normal ⟨#[.int .i64 (sz : Int), B1, B2, B3, B4, B5, B6, B7, B8, B9, .pointer (some ⟨p, 0, none⟩), .int .i64 er, .pointer (some ⟨bw, 0, none⟩), .int .i64 er, C4, .pointer (some ⟨ga, 0, none⟩), C6, C7, C8, C9, D0, D1, D2, D3, D4, D5, D6, D7, D8, D9, E0, E1, E2, E3, E4, E5, E6, E7, E8, E9, F0, F1, F2, F3, F4, F5, F6, F7, F8, F9, G0, G1, G2, G3, G4, G5, G6, G7, G8, G9, H0, H1, H2, H3, H4, H5, H6, H7, H8, H9, I0, I1, I2, I3, I4, I5, I6, I7, I8, I9, J0, J1, J2, J3, J4, J5, J6, t87, t88, t89, t90, t91, t92, t93, t94, t95, K6, K7, K8, K9, L0, L1, L2, L3, L4, L5, L6, L7, L8, L9, M0, M1, M2, M3, M4, M5, M6, M7, M8, M9, N0, N1, N2, N3, N4, N5, N6, N7, N8, N9, O0, O1, O2, O3, O4, O5, O6, O7, O8, O9, P0, P1, P2, P3, P4, P5, P6, P7, P8, P9, Q0, Q1, Q2, Q3, Q4, Q5, Q6, Q7, Q8, Q9, R0, R1, R2, R3, R4, R5, R6, R7, R8, R9, S0, S1, S2, S3, S4, S5, S6, S7, S8, S9, T0, T1, T2, T3, T4, T5, T6, T7, T8, T9, U0, U1, U2, U3, U4, U5, U6, U7, U8, U9, V0, V1, V2, V3, V4, V5, V6, V7, V8, V9, W0, W1, W2, W3, W4, W5, W6, W7, W8, W9, X0, X1, X2, X3, X4, X5, X6, X7, X8, X9, Y0, Y1, Y2, Y3, Y4, Y5, Y6], []⟩ W) : Code.wp Try.prog (cutAt [1, 1, 1, 1, 1, 1, 1, 0, 1, 1, 1, 1, 0, 1, 1, 1, 1, 1, 0, 1, 1, 1, 1, 1, 1, 1, 1, 1, 1, 1, 1] (Try.f8.body.getD .skip)) Q ⟨#[.int .i64 (sz : Int), B1, B2, B3, B4, B5, B6, B7, B8, B9, .pointer (some ⟨p, 0, none⟩), .int .i64 0, .pointer (some ⟨bw, 0, none⟩), .int .i64 0, C4, .pointer (some ⟨ga, 0, none⟩), C6, C7, C8, C9, D0, D1, D2, D3, D4, D5, D6, D7, D8, D9, E0, E1, E2, E3, E4, E5, E6, E7, E8, E9, F0, F1, F2, F3, F4, F5, F6, F7, F8, F9, G0, G1, G2, G3, G4, G5, G6, G7, G8, G9, H0, H1, H2, H3, H4, H5, H6, H7, H8, H9, I0, I1, I2, I3, I4, I5, I6, I7, I8, I9, J0, J1, J2, J3, J4, J5, J6, J7, J8, J9, K0, K1, K2, K3, K4, K5, K6, K7, K8, K9, L0, L1, L2, L3, L4, L5, L6, L7, L8, L9, M0, M1, M2, M3, M4, M5, M6, M7, M8, M9, N0, N1, N2, N3, N4, N5, N6, N7, N8, N9, O0, O1, O2, O3, O4, O5, O6, O7, O8, O9, P0, P1, P2, P3, P4, P5, P6, P7, P8, P9, Q0, Q1, Q2, Q3, Q4, Q5, Q6, Q7, Q8, Q9, R0, R1, R2, R3, R4, R5, R6, R7, R8, R9, S0, S1, S2, S3, S4, S5, S6, S7, S8, S9, T0, T1, T2, T3, T4, T5, T6, T7, T8, T9, U0, U1, U2, U3, U4, U5, U6, U7, U8, U9, V0, V1, V2, V3, V4, V5, V6, V7, V8, V9, W0, W1, W2, W3, W4, W5, W6, W7, W8, W9, X0, X1, X2, X3, X4, X5, X6, X7, X8, X9, Y0, Y1, Y2, Y3, Y4, Y5, Y6], []⟩ wa := by
  conv => arg 2; whnf
  obtain ⟨HB, hsz1, hsz2, bk, bx, by_, hc1, hc2, hDs, hDc, hDl, hj30, HS1, HB1, HAB, hSL1, HGA, HGB, HGR, hg2, hg3, hgw, hzw, hbo⟩ := H
  have HB := Lib.hid HB
  have hwf := HS1.disk.wf'
  have HS1 := Lib.hid HS1
  have HDS := Lib.hid hDs
  clear hDs
  have HB1 := Lib.hid HB1
  have HAB := Lib.hid HAB
  have hSL1 := Lib.hid hSL1
  have HGA := Lib.hid HGA
  have HGB := Lib.hid HGB
  have HGR := Lib.hid HGR
  have hS1 := HS1.out
  have hbs1 := hS1.bs_
  obtain ⟨x0, x1, x2, x3⟩ := HAB.out.cells
  go_wp2_with fail
  clear x0 x1 x2 x3
  have hslw := hSL1.out.more hbs1
  refine (dcrash_any hS1.disk hS1.frD hbs1 (by omega) A1 n1 c1 l hslw (fun hpos ad e => by
    obtain ⟨ad', e', hlt', _⟩ := hSL1.out.reads.2 hpos
    rw [e] at e'
    injection e' with e'
    subst e'
    exact hS1.bd _ hlt')).mono ?_
  rintro e wb ⟨rfl, hDb, hFb⟩
  obtain ⟨_, r2b, r3b, hbsb, hbelb, hfrb⟩ := hS1.prog hDb hFb
  have hFz := hFb.size
  have hBb := HB1.out.fr hFb HGB.out
  have hAb : ABox wb ga kd x y A1 n1 c1 := (hFb.2.2.2.2 ga (blk_lt HAB.out) HGA.out).trans HAB.out
  obtain ⟨x0, x1, x2, x3⟩ := hAb.cells
  obtain ⟨y0, y1, y2, y3, y4, y5⟩ := hBb.cells
  have hcv := string_of_sl (P := Try.prog) Try.underlying30 Try.underlying5 Try.underlying9 (hSL1.out.below (hFb.below hbs1 hS1.bd))
  have hll := hSL1.out.len
  clear hFb hslw
  go_wp2_with fail
  refine (rcrash_ref HB.out r2b r3b hbelb hwf (by omega) l (by omega) hbsb).mono ?_
  rintro e wc ⟨v2', v3', rfl, k1, k2, k3, k4⟩
  clear y0 y1 y2 y3 y4 y5 x0 x1 x2 x3 hcv
  have hle : (D.crash l).size = sz ∧ (D.crash l).calls ≤ j + 1 ∧ (D.crash l).loose.length ≤ j + 1 := ⟨HDS.out, by show D.calls ≤ _; omega, Nat.zero_le _⟩
  have hSc := DSt.refer hDb hS1.dis hS1.bd hfrb hbsb k1 (fun k h => h) k2 k3 k4
  have hBc := hBb.kept k2 hg2
  have hzb : bw < wb.heap.size := by have := hFz; omega
  obtain ⟨okD2, hok2⟩ : ∃ o : Nat → Prop, o = fun k => okD1 k ∧ (k < wb.heap.size ∨ wc.heap.size ≤ k) := ⟨_, rfl⟩
  obtain ⟨okR2, hok3⟩ : ∃ o : Nat → Prop, o = fun k => okR k ∨ (wb.heap.size ≤ k ∧ k < wc.heap.size) := ⟨_, rfl⟩
  rw [← hok2, ← hok3] at hSc
  have hnD : ¬ okD2 bw := by rw [hok2]; exact fun h => HGB.out h.1
  have hnR : ¬ okR2 bw := by rw [hok3]; rintro (h | h); exact hg2 h; omega
  clear hok2 hok3 k1 k2 k3 k4 hDb r2b r3b hbelb
  obtain ⟨y0, y1, y2, y3, y4, y5⟩ := hBc.cells
  have yf : ∀ i, wc.frozen? ⟨bw, i, none⟩ = false := fun i => hBc.free i
  obtain ⟨A6, c6, rfl, _⟩ := Kd.R_reads hSc.r2
  obtain ⟨A7, c7, rfl, _⟩ := Kd.R_reads hSc.r3
  rw [bl_length] at hSc ⊢
  rw [wl_length] at hSc ⊢
  obtain ⟨D8, h8⟩ : ∃ D8, D.crash l = D8 := ⟨_, rfl⟩
  rw [h8] at hSc hle ⊢
  clear h8
  obtain ⟨le1, le2, le3⟩ := hle
  have LE1 := Lib.hid le1
  clear le1
  have HSD := Lib.hid (hSc.set6 hnD hnR hg3 (.int .i64 (D8.size : Int)) (.int .i64 (D8.limit : Int)) (.slice A6 D8.good.length c6) (.slice A7 D8.loose.length c7) (.int .i64 D8.fails) (.int .i64 (D8.calls : Int)))
  have hBd := Lib.hid (hBc.all (s' := (D8.size : Int)) (l' := (D8.limit : Int)) (v2' := .slice A6 D8.good.length c6) (v3' := .slice A7 D8.loose.length c7) (f' := D8.fails) (c' := (D8.calls : Int)))
  clear hSc hBc hBb
  go_wp2_with fail
  exact ⟨⟨okD2, okR2, D8, _, _, HSD.out, LE1.out, le2, le3, hBd.out, hnD, hnR, hg3⟩⟩
set_option maxRecDepth 1000000 in
set_option maxHeartbeats 4000000 in
theorem dswitch  {K : Int} (w wa : World) (sz b p bw ga j : Nat) (kd x y : Int) (A1 : Option Addr) (n1 c1 : Nat) (l : List UInt8) (okD1 okR : Nat → Prop) (D : Dk) (v2 v3 : Value) (H : LF w wa sz b p bw ga j kd x y A1 n1 c1 l okD1 okR D v2 v3) {Q : Exit → Act → World → Prop} (hQ : ∀ (er : Int) (W : World) (t16 t17 t18 t19 t20 t21 t87 t88 t89 t90 t91 t92 t93 t94 t95 t96 t97 t98 t99 t100 t101 t102 t103 t104 t105 t106 t107 t108 t109 t110 t111 t112 t113 t114 t115 t116 t117 t118 t119 t120 t121 t122 t123 t124 t125 t126 t127 t128 t129 t130 t131 t132 t133 t134 t135 t136 t137 t138 t139 t140 t141 t142 t143 t144 t145 t146 t147 t148 t149 t150 t151 t152 t153 t154 t155 t156 t157 t158 t159 t160 t161 t162 t163 t164 t165 t166 t167 t168 t169 t170 t171 t172 t173 t174 t175 t176 t177 t178 t179 t180 t181 t182 t183 : Value), DLoop w W b p bw sz (j + 1) → Q .normal ⟨#[.int .i64 (sz : Int), B1, B2, B3, B4, B5, B6, B7, B8, B9, .pointer (some ⟨p, 0, none⟩), .int .i64 er, .pointer (some ⟨bw, 0, none⟩), .int .i64 er, C4, .pointer (some ⟨ga, 0, none⟩), t16, t17, t18, t19, t20, t21, D2, D3, D4, D5, D6, D7, D8, D9, E0, E1, E2, E3, E4, E5, E6, E7, E8, E9, F0, F1, F2, F3, F4, F5, F6, F7, F8, F9, G0, G1, G2, G3, G4, G5, G6, G7, G8, G9, H0, H1, H2, H3, H4, H5, H6, H7, H8, H9, I0, I1, I2, I3, I4, I5, I6, I7, I8, I9, J0, J1, J2, J3, J4, J5, .int .i64 K, t87, t88, t89, t90, t91, t92, t93, t94, t95, t96, t97, t98, t99, t100, t101, t102, t103, t104, t105, t106, t107, t108, t109, t110, t111, t112, t113, t114, t115, t116, t117, t118, t119, t120, t121, t122, t123, t124, t125, t126, t127, t128, t129, t130, t131, t132, t133, t134, t135, t136, t137, t138, t139, t140, t141, t142, t143, t144, t145, t146, t147, t148, t149, t150, t151, t152, t153, t154, t155, t156, t157, t158, t159, t160, t161, t162, t163, t164, t165, t166, t167, t168, t169, t170, t171, t172, t173, t174, t175, t176, t177, t178, t179, t180, t181, t182, t183, T4, T5, T6, T7, T8, T9, U0, U1, U2, U3, U4, U5, U6, U7, U8, U9, V0, V1, V2, V3, V4, V5, V6, V7, V8, V9, W0, W1, W2, W3, W4, W5, W6, W7, W8, W9, X0, X1, X2, X3, X4, X5, X6, X7, X8, X9, Y0, Y1, Y2, Y3, Y4, Y5, Y6], []⟩ W) : Code.wp Try.prog (cutAt [1, 1, 1, 1, 1, 1, 1, 0, 1, 1, 1, 1, 0, 1, 1, 1, 1, 1, 0, 1] (Try.f8.body.getD .skip)) Q ⟨#[.int .i64 (sz : Int), B1, B2, B3, B4, B5, B6, B7, B8, B9, .pointer (some ⟨p, 0, none⟩), .int .i64 0, .pointer (some ⟨bw, 0, none⟩), .int .i64 0, C4, .pointer (some ⟨ga, 0, none⟩), C6, C7, C8, C9, D0, D1, D2, D3, D4, D5, D6, D7, D8, D9, E0, E1, E2, E3, E4, E5, E6, E7, E8, E9, F0, F1, F2, F3, F4, F5, F6, F7, F8, F9, G0, G1, G2, G3, G4, G5, G6, G7, G8, G9, H0, H1, H2, H3, H4, H5, H6, H7, H8, H9, I0, I1, I2, I3, I4, I5, I6, I7, I8, I9, J0, J1, J2, J3, J4, J5, .int .i64 K, J7, J8, J9, K0, K1, K2, K3, K4, K5, K6, K7, K8, K9, L0, L1, L2, L3, L4, L5, L6, L7, L8, L9, M0, M1, M2, M3, M4, M5, M6, M7, M8, M9, N0, N1, N2, N3, N4, N5, N6, N7, N8, N9, O0, O1, O2, O3, O4, O5, O6, O7, O8, O9, P0, P1, P2, P3, P4, P5, P6, P7, P8, P9, Q0, Q1, Q2, Q3, Q4, Q5, Q6, Q7, Q8, Q9, R0, R1, R2, R3, R4, R5, R6, R7, R8, R9, S0, S1, S2, S3, S4, S5, S6, S7, S8, S9, T0, T1, T2, T3, T4, T5, T6, T7, T8, T9, U0, U1, U2, U3, U4, U5, U6, U7, U8, U9, V0, V1, V2, V3, V4, V5, V6, V7, V8, V9, W0, W1, W2, W3, W4, W5, W6, W7, W8, W9, X0, X1, X2, X3, X4, X5, X6, X7, X8, X9, Y0, Y1, Y2, Y3, Y4, Y5, Y6], []⟩ wa := by
  conv => arg 2; whnf
  refine wp_block ?_
  refine wp_seq ?_
  refine dtest96 (fun bb t97 t98 t99 t100 => ?_)
  show Code.wp _ (Code.cond (.tmp 96) _ _) _ _ _
  cases bb with
  | true =>
    refine wp_cond_true rfl ?_
    exact dwrite w wa sz b p bw ga j kd x y A1 n1 c1 l okD1 okR D v2 v3 H (fun er W t16 t101 t102 t103 t104 t105 t106 t107 t108 t109 t110 t111 t112 t113 t114 t115 t116 t117 t118 t119 t120 t121 hD => hQ er W _ _ _ _ _ _ _ _ _ _ _ _ _ _ _ _ _ _ _ _ _ _ _ _ _ _ _ _ _ _ _ _ _ _ _ _ _ _ _ _ _ _ _ _ _ _ _ _ _ _ _ _ _ _ _ _ _ _ _ _ _ _ _ _ _ _ _ _ _ _ _ _ _ _ _ _ _ _ _ _ _ _ _ _ _ _ _ _ _ _ _ _ _ _ _ _ _ _ _ _ _ _ _ hD)
  | false =>
    refine wp_cond_false rfl ?_
    refine wp_seq ?_
    refine dtest122 (fun bb t123 t124 t125 => ?_)
    show Code.wp _ (Code.cond (.tmp 122) _ _) _ _ _
    cases bb with
    | true =>
      refine wp_cond_true rfl ?_
      exact dread w wa sz b p bw ga j kd x y A1 n1 c1 l okD1 okR D v2 v3 H (fun er W t17 t18 t19 t20 t21 t126 t127 t128 t129 t130 t131 t132 t133 t134 t135 t136 t137 t138 t139 t140 t141 t142 t143 t144 t145 t146 t147 hD => hQ er W _ _ _ _ _ _ _ _ _ _ _ _ _ _ _ _ _ _ _ _ _ _ _ _ _ _ _ _ _ _ _ _ _ _ _ _ _ _ _ _ _ _ _ _ _ _ _ _ _ _ _ _ _ _ _ _ _ _ _ _ _ _ _ _ _ _ _ _ _ _ _ _ _ _ _ _ _ _ _ _ _ _ _ _ _ _ _ _ _ _ _ _ _ _ _ _ _ _ _ _ _ _ _ hD)
    | false =>
      refine wp_cond_false rfl ?_
      refine wp_seq ?_
      refine dtest148 (fun bb t149 t150 => ?_)
      show Code.wp _ (Code.cond (.tmp 148) _ _) _ _ _
      cases bb with
      | true =>
        refine wp_cond_true rfl ?_
        exact dgrow w wa sz b p bw ga j kd x y A1 n1 c1 l okD1 okR D v2 v3 H (fun er W t151 t152 t153 t154 t155 t156 t157 t158 t159 t160 t161 hD => hQ er W _ _ _ _ _ _ _ _ _ _ _ _ _ _ _ _ _ _ _ _ _ _ _ _ _ _ _ _ _ _ _ _ _ _ _ _ _ _ _ _ _ _ _ _ _ _ _ _ _ _ _ _ _ _ _ _ _ _ _ _ _ _ _ _ _ _ _ _ _ _ _ _ _ _ _ _ _ _ _ _ _ _ _ _ _ _ _ _ _ _ _ _ _ _ _ _ _ _ _ _ _ _ _ hD)
      | false =>
        refine wp_cond_false rfl ?_
        refine wp_seq ?_
        refine dtest162 (fun bb t163 t164 t165 => ?_)
        show Code.wp _ (Code.cond (.tmp 162) _ _) _ _ _
        cases bb with
        | true =>
          refine wp_cond_true rfl ?_
          exact dsync w wa sz b p bw ga j kd x y A1 n1 c1 l okD1 okR D v2 v3 H (fun er W t166 t167 t168 t169 t170 t171 t172 hD => hQ er W _ _ _ _ _ _ _ _ _ _ _ _ _ _ _ _ _ _ _ _ _ _ _ _ _ _ _ _ _ _ _ _ _ _ _ _ _ _ _ _ _ _ _ _ _ _ _ _ _ _ _ _ _ _ _ _ _ _ _ _ _ _ _ _ _ _ _ _ _ _ _ _ _ _ _ _ _ _ _ _ _ _ _ _ _ _ _ _ _ _ _ _ _ _ _ _ _ _ _ _ _ _ _ hD)
        | false =>
          refine wp_cond_false rfl ?_
          refine wp_seq ?_
          refine dtest173 (fun bb t174 t175 => ?_)
          show Code.wp _ (Code.cond (.tmp 173) _ _) _ _ _
          cases bb with
          | true =>
            refine wp_cond_true rfl ?_
            exact dfail w wa sz b p bw ga j kd x y A1 n1 c1 l okD1 okR D v2 v3 H (fun er W t176 t177 t178 t179 t180 t181 t182 t183 hD => hQ er W _ _ _ _ _ _ _ _ _ _ _ _ _ _ _ _ _ _ _ _ _ _ _ _ _ _ _ _ _ _ _ _ _ _ _ _ _ _ _ _ _ _ _ _ _ _ _ _ _ _ _ _ _ _ _ _ _ _ _ _ _ _ _ _ _ _ _ _ _ _ _ _ _ _ _ _ _ _ _ _ _ _ _ _ _ _ _ _ _ _ _ _ _ _ _ _ _ _ _ _ _ _ _ hD)
          | false =>
            refine wp_cond_false rfl ?_
            exact dcrash w wa sz b p bw ga j kd x y A1 n1 c1 l okD1 okR D v2 v3 H (fun er W t87 t88 t89 t90 t91 t92 t93 t94 t95 hD => hQ er W _ _ _ _ _ _ _ _ _ _ _ _ _ _ _ _ _ _ _ _ _ _ _ _ _ _ _ _ _ _ _ _ _ _ _ _ _ _ _ _ _ _ _ _ _ _ _ _ _ _ _ _ _ _ _ _ _ _ _ _ _ _ _ _ _ _ _ _ _ _ _ _ _ _ _ _ _ _ _ _ _ _ _ _ _ _ _ _ _ _ _ _ _ _ _ _ _ _ _ _ _ _ _ hD)
end
set_option maxRecDepth 100000 in
theorem diskPlays_early (w : World) (S L : Int) (A2 A3 : Option Addr) (n2 c2 n3 c3 : Nat) (h : 9000 < n2) :
    Calls Try.prog 8 #[.int .i64 S, .int .i64 L, .slice A2 n2 c2, .slice A3 n3 c3] w fun e w' => e = .returned (.bool true) ∧ Below w.heap.size w w' := by
  have haw := awake03 w
  have d1 : decide (9000 < n2) = true := decide_eq_true h
  have d1' : decide ((9000 : Int) < (n2 : Int)) = true := decide_eq_true (by omega)
  go_enter Try.func8, Try.ntmps8
  go_wp2_with fail
  refine haw.mono ?_
  rintro e w1 ⟨rfl, hb1⟩
  go_wp2_with fail
  go_ret
  exact ⟨rfl, hb1⟩
set_option maxRecDepth 100000 in
set_option maxHeartbeats 2000000 in
theorem diskPlays_no (w : World) (S L : Int) (A2 A3 : Option Addr) (n2 c2 n3 c3 : Nat) (bl2 : List UInt8) (s2 : Sl w w.heap.size A2 n2 c2 bl2) (hn : n2 ≤ 9000) (h : ¬ (NewOk S L ∧ (n2 : Int) % S = 0 ∧ (n2 : Int) / S ≤ L)) :
    Calls Try.prog 8 #[.int .i64 S, .int .i64 L, .slice A2 n2 c2, .slice A3 n3 c3] w fun e w' => e = .returned (.bool true) ∧ Below w.heap.size w w' := by
  have haw := awake03 w
  have d1 : decide (9000 < n2) = false := decide_eq_false (by omega)
  have d1' : decide ((9000 : Int) < (n2 : Int)) = false := decide_eq_false (by omega)
  have hlen := s2.len
  have S2 := Lib.hid s2
  have HH := Lib.hid h
  clear s2 h
  obtain ⟨dn, hdn⟩ : ∃ dn, decide ((0 : Int) < (n3 : Int)) = dn := ⟨_, rfl⟩
  obtain ⟨dm, hdm⟩ : ∃ dm, decide (0 < n3) = dm := ⟨_, rfl⟩
  go_enter Try.func8, Try.ntmps8
  go_wp2_with fail
  refine haw.mono ?_
  rintro e w1 ⟨rfl, hb1⟩
  go_wp2_with fail
  refine (dfrom_no w1 A2 n2 c2 (by omega) S L HH.out).mono ?_
  rintro e w2 ⟨rfl, hb2⟩
  have hb2' := hb1.trans (hb2.mono hb1.size)
  have hsl := (S2.out.below hb2')
  have hcv := string_of_sl (P := Try.prog) Try.underlying30 Try.underlying5 Try.underlying9 hsl
  clear hsl
  go_wp2_with fail
  refine (rfrom_no w2 (S := S) (L := L) bl2 (by omega) (by rw [hlen]; exact HH.out)).mono ?_
  rintro e w3 ⟨v2, v3, rfl, ⟨A4, c4, rfl⟩, ⟨A5, c5, rfl⟩, hb3⟩
  have hb3' := hb2'.trans (hb3.mono hb2'.size)
  clear hcv hb2 hb3 hb1
  go_wp2_with fail
  have hb4 := hb3'.alloc hb3'.size (.cells #[.int .i64 0, .int .i64 0, .slice A4 0 c4, .slice A5 0 c5, .int .i64 0, .int .i64 0] 47)
  generalize w3.alloc (.cells #[.int .i64 0, .int .i64 0, .slice A4 0 c4, .slice A5 0 c5, .int .i64 0, .int .i64 0] 47) = w4 at hb4 ⊢
  go_loopw [14] (fun i wr => i = .int .i64 0 ∧ wr = w4) (fun i _ => 0)
  case atStart => exact ⟨rfl, rfl⟩
  case round =>
    obtain ⟨rfl, rfl⟩ := hrel
    rcases Nat.eq_zero_or_pos n3 with h0 | h0
    · subst h0
      clear hdn hdm
      go_wp2_with (first | (go_at_call 27; refine (nfail _).mono ?_; rintro e w' ⟨rfl, rfl⟩) | (go_at_call 24; refine (ncrash _).mono ?_; rintro e w' ⟨rfl, rfl⟩) | (go_at_call 25; refine (nread _).mono ?_; rintro e w' ⟨rfl, rfl⟩) | (go_at_call 21; refine (nwrite _).mono ?_; rintro e w' ⟨rfl, rfl⟩) | (go_at_call 23; refine (nsync _).mono ?_; rintro e w' ⟨rfl, rfl⟩) | (go_at_call 16; refine (ngrow _).mono ?_; rintro e w' ⟨rfl, rfl⟩) | (go_at_call 19; refine (nlen _).mono ?_; rintro e w' ⟨rfl, rfl⟩) | (go_at_call 26; refine (nloose _).mono ?_; rintro e w' ⟨rfl, rfl⟩) | (go_at_call 17; refine (nsize _).mono ?_; rintro e w' ⟨rfl, rfl⟩) | (go_at_call 18; refine (nlimit _).mono ?_; rintro e w' ⟨rfl, rfl⟩) | (go_at_call 20; refine (ncalls _).mono ?_; rintro e w' ⟨rfl, rfl⟩))
      go_ret
      exact ⟨rfl, hb4⟩
    · have e0 : decide (0 < n3) = true := decide_eq_true h0
      have e0' : decide ((0 : Int) < (n3 : Int)) = true := decide_eq_true (by omega)
      clear hdn hdm
      go_wp2_with (first | (go_at_call 27; refine (nfail _).mono ?_; rintro e w' ⟨rfl, rfl⟩) | (go_at_call 24; refine (ncrash _).mono ?_; rintro e w' ⟨rfl, rfl⟩) | (go_at_call 25; refine (nread _).mono ?_; rintro e w' ⟨rfl, rfl⟩) | (go_at_call 21; refine (nwrite _).mono ?_; rintro e w' ⟨rfl, rfl⟩) | (go_at_call 23; refine (nsync _).mono ?_; rintro e w' ⟨rfl, rfl⟩) | (go_at_call 16; refine (ngrow _).mono ?_; rintro e w' ⟨rfl, rfl⟩) | (go_at_call 19; refine (nlen _).mono ?_; rintro e w' ⟨rfl, rfl⟩) | (go_at_call 26; refine (nloose _).mono ?_; rintro e w' ⟨rfl, rfl⟩) | (go_at_call 17; refine (nsize _).mono ?_; rintro e w' ⟨rfl, rfl⟩) | (go_at_call 18; refine (nlimit _).mono ?_; rintro e w' ⟨rfl, rfl⟩) | (go_at_call 20; refine (ncalls _).mono ?_; rintro e w' ⟨rfl, rfl⟩))
      go_ret
      exact ⟨rfl, hb4⟩
set_option maxRecDepth 100000 in
set_option maxHeartbeats 8000000 in
theorem diskPlays_ok (w : World) (sz lm : Nat) (A2 A3 : Option Addr) (n2 c2 n3 c3 : Nat) (bl2 : List UInt8) (s2 : Sl w w.heap.size A2 n2 c2 bl2) (s3 : DActs w w.heap.size A3 n3) (hn : n2 ≤ 9000) (hnew : NewOk (sz : Int) (lm : Int)) (hmod : n2 % sz = 0) (hdiv : n2 / sz ≤ lm) :
    Calls Try.prog 8 #[.int .i64 (sz : Int), .int .i64 (lm : Int), .slice A2 n2 c2, .slice A3 n3 c3] w fun e w' => e = .returned (.bool true) ∧ Below w.heap.size w w' := by
  have haw := awake03 w
  have d1 : decide (9000 < n2) = false := decide_eq_false (by omega)
  have d1' : decide ((9000 : Int) < (n2 : Int)) = false := decide_eq_false (by omega)
  have hlen := s2.len
  have S2 := Lib.hid s2
  have S3 := Lib.hid s3
  have HNEW := Lib.hid hnew
  have hsz1 : 0 < sz := by have := hnew.1; omega
  have hsz2 : sz ≤ 4096 := by have := hnew.2.1; omega
  clear s2 s3 hnew
  obtain ⟨b, hb⟩ : ∃ b, w.heap.size = b := ⟨_, rfl⟩
  have HB := Lib.hid hb
  rw [hb] at haw S2 S3 ⊢
  clear hb
  go_enter Try.func8, Try.ntmps8
  go_wp2_with fail
  refine haw.mono ?_
  rintro e w1 ⟨rfl, hb1⟩
  have hz1 := hb1.size
  rw [HB.out] at hz1
  go_wp2_with fail
  refine (dfrom_is w1 A2 n2 c2 bl2 sz lm ((S2.out.below hb1).more hz1) HNEW.out hmod hdiv b (fun k => b ≤ k) hz1 (fun k hk => Nat.le_trans hz1 hk)).mono ?_
  rintro e w2 ⟨rfl, hD2, hb2⟩
  have hb2' := hb1.trans (hb2.mono hz1)
  have hz2 := hb2.size
  have hcv := string_of_sl (P := Try.prog) Try.underlying30 Try.underlying5 Try.underlying9 (S2.out.below hb2')
  clear hb2 hb1 haw
  generalize w1.heap.size = p at hD2 hz1 hz2 ⊢
  go_wp2_with fail
  refine (rfrom_ok w w2 b HB.out hb2' (by omega) HNEW.out bl2 (by rw [hlen]; exact hmod) (by rw [hlen]; exact hdiv) (by omega)).mono ?_
  rintro e w3 ⟨v2, v3, rfl, hr1, hr2, hr3, hr4⟩
  have hSt := DSt.refer (D' := dFrom sz lm bl2) hD2 (fun k h => h.elim) (fun k hk => by show ¬ b ≤ k; omega) (fun k hk => by show b ≤ k; omega) (by omega) hr1 (fun k hk => hk) hr2 hr3 hr4
  have hs0 : (dFrom sz lm bl2).size = sz := rfl
  have hl0 : (dFrom sz lm bl2).limit = lm := rfl
  have hc0 : (dFrom sz lm bl2).calls = 0 := rfl
  have ho0 : (dFrom sz lm bl2).loose = [] := rfl
  have hf0 : (dFrom sz lm bl2).fails = -1 := rfl
  generalize dFrom sz lm bl2 = D3 at hSt hs0 hl0 hc0 ho0 hf0
  clear hr1 hr2 hr3 hr4 hcv hD2 hb2' hmod hdiv
  obtain ⟨okD, hokD⟩ : ∃ o : Nat → Prop, o = fun k => b ≤ k ∧ (k < w2.heap.size ∨ w3.heap.size ≤ k) := ⟨_, rfl⟩
  obtain ⟨okR, hokR⟩ : ∃ o : Nat → Prop, o = fun k => False ∨ (w2.heap.size ≤ k ∧ k < w3.heap.size) := ⟨_, rfl⟩
  rw [← hokD, ← hokR] at hSt
  clear hokD hokR
  obtain ⟨A4, c4, rfl, _⟩ := Kd.R_reads hSt.r2
  obtain ⟨A5, c5, rfl, _⟩ := Kd.R_reads hSt.r3
  have hl30 : D3.loose.length = 0 := by rw [ho0]; rfl
  rw [bl_length] at hSt ⊢
  rw [wl_length, hl30] at hSt ⊢
  clear hl30
  go_wp2_with fail
  have hbw : RBox (w3.alloc (.cells #[.int .i64 (sz : Int), .int .i64 (lm : Int), .slice A4 D3.good.length c4, .slice A5 0 c5, .int .i64 (-1), .int .i64 0] 47)) w3.heap.size sz lm (.slice A4 D3.good.length c4) (.slice A5 0 c5) (-1) 0 := heap_alloc_new w3 _
  have hSt4 := hSt.below ((Below.refl _ w3).alloc (Nat.le_refl _) (.cells #[.int .i64 (sz : Int), .int .i64 (lm : Int), .slice A4 D3.good.length c4, .slice A5 0 c5, .int .i64 (-1), .int .i64 0] 47))
  have hn1 : ¬ (okD w3.heap.size ∧ (w3.heap.size < w3.heap.size ∨ (w3.alloc (.cells #[.int .i64 (sz : Int), .int .i64 (lm : Int), .slice A4 D3.good.length c4, .slice A5 0 c5, .int .i64 (-1), .int .i64 0] 47)).heap.size ≤ w3.heap.size)) := by simp
  have hn2 : ¬ okR w3.heap.size := fun h => hSt.dis _ h (hSt.frD _ (Nat.le_refl _))
  have hn3 : b ≤ w3.heap.size := hSt.bs_
  generalize w3.heap.size = bw at hbw hSt4 hn1 hn2 hn3 ⊢
  generalize w3.alloc (.cells #[.int .i64 (sz : Int), .int .i64 (lm : Int), .slice A4 D3.good.length c4, .slice A5 0 c5, .int .i64 (-1), .int .i64 0] 47) = w4 at hbw hSt4 hn1 ⊢
  have hLoop : DLoop w w4 b p bw sz 0 := ⟨⟨_, _, _, _, _, hSt4, hs0, by omega, by rw [ho0]; exact Nat.le_refl _, by rw [hs0, hl0, hf0, hc0]; exact hbw, hn1, hn2, hn3⟩⟩
  clear hbw hSt4 hn1 hn2 hn3 hSt hs0 hl0 hc0 ho0 hf0
  go_loopw [14] (fun i wr => ∃ j : Nat, j ≤ n3 ∧ j ≤ 30 ∧ i = .int .i64 (j : Int) ∧ DLoop w wr b p bw sz j) (fun i _ => 30 - (intOf i).toNat)
  case atStart => exact ⟨0, Nat.zero_le _, Nat.zero_le _, rfl, hLoop⟩
  case round =>
    obtain ⟨wo, hwo⟩ : ∃ wo, wo = wr := ⟨_, rfl⟩
    subst hwo
    obtain ⟨j, hj, hj30, rfl, ⟨okD, okR, D, v2, v3, hSt, hDs, hDc, hDl, hbox, hg1, hg2, hg3⟩⟩ := hrel
    clear hLoop
    by_cases hlt : j < n3 ∧ j < 30
    · obtain ⟨hlt1, hlt2⟩ := hlt
      have e1 : decide (j < n3) = true := decide_eq_true hlt1
      have e1' : decide ((j : Int) < (n3 : Int)) = true := decide_eq_true (by omega)
      have e2 : decide (j < 30) = true := decide_eq_true hlt2
      have e2' : decide ((j : Int) < 30) = true := decide_eq_true (by omega)
      obtain ⟨ad, kd, x, y, A1, n1, c1, l, hA, hadB, a0, bk, a1, bx, a2, by_, a3, hsl⟩ := (S3.out.below hSt.bel) j hlt1
      subst hA
      have HST := Lib.hid hSt
      have HDS := Lib.hid hDs
      clear hDs
      have HBX := Lib.hid hbox
      have HSL := Lib.hid hsl
      clear hSt hbox hsl
      by_cases hc1 : 100 < n1
      · have f1 : decide (100 < n1) = true := decide_eq_true hc1
        have f1' : decide ((100 : Int) < (n1 : Int)) = true := decide_eq_true (by omega)
        go_wp2_with fail
        go_ret
        exact ⟨rfl, HST.out.bel.alloc HST.out.bs_ _⟩
      have f1 : decide (100 < n1) = false := decide_eq_false hc1
      have f1' : decide ((100 : Int) < (n1 : Int)) = false := decide_eq_false (by omega)
      by_cases hc2 : 100 < x
      · have f2 : decide (100 < x) = true := decide_eq_true hc2
        go_wp2_with fail
        go_ret
        exact ⟨rfl, HST.out.bel.alloc HST.out.bs_ _⟩
      have f2 : decide (100 < x) = false := decide_eq_false hc2
      have hab : ABox (wo.alloc (.cells #[.int .i64 kd, .int .i64 x, .int .i64 y, .slice A1 n1 c1] 51)) wo.heap.size kd x y A1 n1 c1 := heap_alloc_new wo _
      have hS1 := HST.out.below ((Below.refl _ wo).alloc (Nat.le_refl _) (.cells #[.int .i64 kd, .int .i64 x, .int .i64 y, .slice A1 n1 c1] 51))
      have hB1 := HBX.out.below ((Below.refl _ wo).alloc (Nat.le_refl _) (.cells #[.int .i64 kd, .int .i64 x, .int .i64 y, .slice A1 n1 c1] 51))
      have hsz9 : (wo.alloc (.cells #[.int .i64 kd, .int .i64 x, .int .i64 y, .slice A1 n1 c1] 51)).heap.size = wo.heap.size + 1 := by simp
      have hgw : bw < wo.heap.size := blk_lt HBX.out
      rw [hsz9] at hS1
      obtain ⟨okD1, hok1⟩ : ∃ o : Nat → Prop, o = fun k => okD k ∧ (k < wo.heap.size ∨ wo.heap.size + 1 ≤ k) := ⟨_, rfl⟩
      rw [← hok1] at hS1
      have HGA : Hid (¬ okD1 wo.heap.size) := Lib.hid (by rw [hok1]; rintro ⟨_, h⟩; omega)
      have HGB : Hid (¬ okD1 bw) := Lib.hid (by rw [hok1]; exact fun h => hg1 h.1)
      have HGR : Hid (¬ okR wo.heap.size) := Lib.hid (fun h => HST.out.dis _ h (HST.out.frD _ (Nat.le_refl _)))
      have HS1 := Lib.hid hS1
      have hwf := hS1.disk.wf'
      have HB1 := Lib.hid hB1
      have HAB := Lib.hid hab
      have hSL1 := Lib.hid ((HSL.out.below ((Below.refl _ wo).alloc HST.out.bs_ (.cells #[.int .i64 kd, .int .i64 x, .int .i64 y, .slice A1 n1 c1] 51))))
      have hbo : b ≤ wo.heap.size := HST.out.bs_
      have hzw := hsz9
      generalize wo.alloc (.cells #[.int .i64 kd, .int .i64 x, .int .i64 y, .slice A1 n1 c1] 51) = wa0 at hzw
      clear hS1 hB1 hab hsz9 hok1 hzw wa0
      obtain ⟨K, hK⟩ := kind_bits kd bk
      go_upto_block 2 with fail
      have hzw : wo.heap.size < (wo.alloc (.cells #[.int .i64 kd, .int .i64 x, .int .i64 y, .slice A1 n1 c1] 51)).heap.size := by simp
      generalize wo.alloc (.cells #[.int .i64 kd, .int .i64 x, .int .i64 y, .slice A1 n1 c1] 51) = wa at HS1 HB1 HAB hSL1 hzw ⊢
      have hS1 := HS1.out
      have hbs1 := hS1.bs_
      clear HST HBX HSL
      generalize wo.heap.size = ga at HAB HGA HGR hzw hgw hbo ⊢
      obtain ⟨x0, x1, x2, x3⟩ := HAB.out.cells
      have HLF : LF w wa sz b p bw ga j kd x y A1 n1 c1 l okD1 okR D v2 v3 := ⟨HB.out, hsz1, hsz2, bk, bx, by_, hc1, hc2, HDS.out, hDc, hDl, hlt2, HS1.out, HB1.out, HAB.out, hSL1.out, HGA.out, HGB.out, HGR.out, hg2, hg3, hgw, hzw, hbo⟩
      refine dswitch w wa sz b p bw ga j kd x y A1 n1 c1 l okD1 okR D v2 v3 HLF (fun er wc t16 t17 t18 t19 t20 t21 t87 t88 t89 t90 t91 t92 t93 t94 t95 t96 t97 t98 t99 t100 t101 t102 t103 t104 t105 t106 t107 t108 t109 t110 t111 t112 t113 t114 t115 t116 t117 t118 t119 t120 t121 t122 t123 t124 t125 t126 t127 t128 t129 t130 t131 t132 t133 t134 t135 t136 t137 t138 t139 t140 t141 t142 t143 t144 t145 t146 t147 t148 t149 t150 t151 t152 t153 t154 t155 t156 t157 t158 t159 t160 t161 t162 t163 t164 t165 t166 t167 t168 t169 t170 t171 t172 t173 t174 t175 t176 t177 t178 t179 t180 t181 t182 t183 hcut => ?_)
      obtain ⟨okD8, okR8, D8, v2', v3', hSc, le1, le2, le3, hBc, hnD, hnR, hgb⟩ := hcut.ex
      clear HLF hcut
      obtain ⟨A6, c6, rfl, _⟩ := Kd.R_reads hSc.r2
      obtain ⟨A7, c7, rfl, _⟩ := Kd.R_reads hSc.r3
      rw [bl_length] at hSc hBc
      rw [wl_length] at hSc hBc
      have LE1 := Lib.hid le1
      have HSD := Lib.hid hSc
      have hBd := Lib.hid hBc
      obtain ⟨y0, y1, y2, y3, y4, y5⟩ := hBc.cells
      clear le1 hSc hBc HS1 HB1 HAB hSL1 hS1 x0 x1 x2 x3
      go_wp2_with fail
      refine (alike_any wc b okD8 p D8 HSD.out.disk A6 A7 c6 c7).mono ?_
      rintro e we ⟨rfl, hbe⟩
      have hSe := HSD.out.below hbe
      have hBe := hBd.out.below hbe
      clear HSD hBd y0 y1 y2 y3 y4 y5
      go_wp2_with fail
      exact ⟨⟨j + 1, by omega, by omega, by go_num, ⟨⟨_, okR8, D8, _, _, hSe, LE1.out, le2, le3, hBe, fun h => hnD h.1, hnR, hgb⟩⟩⟩, by simp [intOf]; omega⟩
    · by_cases hjn : j < n3
      · have e1 : decide (j < n3) = true := decide_eq_true hjn
        have e1' : decide ((j : Int) < (n3 : Int)) = true := decide_eq_true (by omega)
        have e2 : decide (j < 30) = false := decide_eq_false (by omega)
        have e2' : decide ((j : Int) < 30) = false := decide_eq_false (by omega)
        have hbel := hSt.bel
        clear hSt hbox
        go_wp2_with (first | (go_at_call 27; refine (nfail _).mono ?_; rintro e w' ⟨rfl, rfl⟩) | (go_at_call 24; refine (ncrash _).mono ?_; rintro e w' ⟨rfl, rfl⟩) | (go_at_call 25; refine (nread _).mono ?_; rintro e w' ⟨rfl, rfl⟩) | (go_at_call 21; refine (nwrite _).mono ?_; rintro e w' ⟨rfl, rfl⟩) | (go_at_call 23; refine (nsync _).mono ?_; rintro e w' ⟨rfl, rfl⟩) | (go_at_call 16; refine (ngrow _).mono ?_; rintro e w' ⟨rfl, rfl⟩) | (go_at_call 19; refine (nlen _).mono ?_; rintro e w' ⟨rfl, rfl⟩) | (go_at_call 26; refine (nloose _).mono ?_; rintro e w' ⟨rfl, rfl⟩) | (go_at_call 17; refine (nsize _).mono ?_; rintro e w' ⟨rfl, rfl⟩) | (go_at_call 18; refine (nlimit _).mono ?_; rintro e w' ⟨rfl, rfl⟩) | (go_at_call 20; refine (ncalls _).mono ?_; rintro e w' ⟨rfl, rfl⟩))
        go_ret
        exact ⟨rfl, hbel⟩
      · have e1 : decide (j < n3) = false := decide_eq_false hjn
        have e1' : decide ((j : Int) < (n3 : Int)) = false := decide_eq_false (by omega)
        have hbel := hSt.bel
        clear hSt hbox
        go_wp2_with (first | (go_at_call 27; refine (nfail _).mono ?_; rintro e w' ⟨rfl, rfl⟩) | (go_at_call 24; refine (ncrash _).mono ?_; rintro e w' ⟨rfl, rfl⟩) | (go_at_call 25; refine (nread _).mono ?_; rintro e w' ⟨rfl, rfl⟩) | (go_at_call 21; refine (nwrite _).mono ?_; rintro e w' ⟨rfl, rfl⟩) | (go_at_call 23; refine (nsync _).mono ?_; rintro e w' ⟨rfl, rfl⟩) | (go_at_call 16; refine (ngrow _).mono ?_; rintro e w' ⟨rfl, rfl⟩) | (go_at_call 19; refine (nlen _).mono ?_; rintro e w' ⟨rfl, rfl⟩) | (go_at_call 26; refine (nloose _).mono ?_; rintro e w' ⟨rfl, rfl⟩) | (go_at_call 17; refine (nsize _).mono ?_; rintro e w' ⟨rfl, rfl⟩) | (go_at_call 18; refine (nlimit _).mono ?_; rintro e w' ⟨rfl, rfl⟩) | (go_at_call 20; refine (ncalls _).mono ?_; rintro e w' ⟨rfl, rfl⟩))
        go_ret
        exact ⟨rfl, hbel⟩
theorem diskPlays_law (w : World) (S L : Int) (A2 A3 : Option Addr) (n2 c2 n3 c3 : Nat) (bl2 : List UInt8) (s2 : Sl w w.heap.size A2 n2 c2 bl2) (s3 : DActs w w.heap.size A3 n3) :
    Calls Try.prog 8 #[.int .i64 S, .int .i64 L, .slice A2 n2 c2, .slice A3 n3 c3] w fun e w' => e = .returned (.bool true) ∧ Below w.heap.size w w' := by
  by_cases h : 9000 < n2
  · exact diskPlays_early w S L A2 A3 n2 c2 n3 c3 h
  by_cases h2 : NewOk S L ∧ (n2 : Int) % S = 0 ∧ (n2 : Int) / S ≤ L
  · obtain ⟨h3, h4, h5⟩ := h2
    obtain ⟨s, rfl⟩ := Int.eq_ofNat_of_zero_le (show 0 ≤ S by have := h3.1; omega)
    obtain ⟨m, rfl⟩ := Int.eq_ofNat_of_zero_le (show 0 ≤ L by have := h3.2.2.2.1; omega)
    exact diskPlays_ok w s m A2 A3 n2 c2 n3 c3 bl2 s2 s3 (by omega) h3 (by exact_mod_cast h4) (by exact_mod_cast h5)
  · exact diskPlays_no w S L A2 A3 n2 c2 n3 c3 bl2 s2 (by omega) h2
end Go.Proofs.Ythijobbhpbklmaa
