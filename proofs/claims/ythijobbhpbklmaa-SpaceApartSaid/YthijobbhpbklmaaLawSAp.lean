/- SpaceApart: no page is taken that is in use; what is free behind is counted. -/
import Derived.Test.YthijobbhpbklmaaSApP
import Derived.Test.YthijobbhpbklmaaSSortI
import Derived.Test.YthijobbhpbklmaaSSortK
import Derived.Test.YthijobbhpbklmaaSBrA
namespace Go.Proofs.Ythijobbhpbklmaa
open Go.RowKit
set_option linter.unusedVariables false
set_option linter.unusedSimpArgs false

section
open Go.Sort
theorem callees13P : Callees13 where
  ins := insertion_page
  brk := breakPatterns_page
  piv := choosePivot_page
  par := partialInsertionSort_page
  peq := partitionEqualOrdered_page
  prt := partitionOrdered_page
theorem plain13P : Plain13 where
  swo := swo_ltP
  ins := insertionSort_holds
  par := partialInsertionSort_holds
  prt := partition_holds _
  peq := partitionEqual_holds _
  pdq := pdq_sorts _
/-- pdqsortOrdered does any pages. -/
theorem pdqAll (m : Nat) : PdqAt m := fun blk off cap a b limit d w hH hb hab hbd _ hsz hl hB =>
  pdqsort_page callees13P plain13P (b - a + 1) blk off cap a b limit d w (by omega) hH hb hab hbd hsz hl hB
theorem sortsAll (m : Nat) : SortsAt m := sorts_at (pdqAll m)
end
/-- A part of a code. -/
def cutAt : List Nat → Code → Code
  | [], c => c
  | 0 :: p, .seq a _ => cutAt p a
  | _ :: p, .seq _ b => cutAt p b
  | 0 :: p, .cond _ a _ => cutAt p a
  | _ :: p, .cond _ _ b => cutAt p b
  | _ :: p, .block _ c => cutAt p c
  | _ :: p, .loop c => cutAt p c
  | _, c => c
/-- What each page is, in memory. -/
def What (w : World) (g : Nat) (l : List Nat) : Prop := w.heap[g]? = some (.cells (l.map fun (x : Nat) => Value.int .i64 (x : Int)).toArray 3 (0, 0))
theorem What.cell {w : World} {g : Nat} {l : List Nat} (h : What w g l) {i x : Nat} (hx : l[i]? = some x) : w.cell? ⟨g, i, none⟩ = some (.int .i64 (x : Int)) := by
  rw [blk_cell h i]
  simp [hx]
theorem What.free {w : World} {g : Nat} {l : List Nat} (h : What w g l) (i : Nat) : w.frozen? ⟨g, i, none⟩ = false := blk_frozen h i
theorem What.set {w : World} {g : Nat} {l : List Nat} (h : What w g l) (i v : Nat) : What (w.setCell ⟨g, i, none⟩ (.int .i64 (v : Int))) g (l.set i v) := by
  unfold What
  rw [blk_set h i]
  simp [List.map_set]
def maxT (rs : List FRc) : Nat := rs.foldl (fun m r => max m r.1) 0
theorem maxT_snoc (rs : List FRc) (r : FRc) : maxT (rs ++ [r]) = max (maxT rs) r.1 := by simp [maxT, List.foldl_append]
theorem maxT_le (rs : List FRc) : ∀ r ∈ rs, r.1 ≤ maxT rs := by
  have key : ∀ (l : List FRc) (m : Nat), m ≤ l.foldl (fun m r => max m r.1) m ∧ ∀ r ∈ l, r.1 ≤ l.foldl (fun m r => max m r.1) m := by
    intro l
    induction l with
    | nil => intro m; exact ⟨Nat.le_refl _, fun r hr => by cases hr⟩
    | cons x l ih =>
      intro m
      obtain ⟨h1, h2⟩ := ih (max m x.1)
      refine ⟨Nat.le_trans (Nat.le_max_left _ _) h1, fun r hr => ?_⟩
      rcases List.mem_cons.1 hr with rfl | hr
      · exact Nat.le_trans (Nat.le_max_right _ _) h1
      · exact h2 r hr
  exact (key rs 0).2
theorem maxT_lt {rs : List FRc} (h : ∀ r ∈ rs, r.1 < 18446744073709551616) : maxT rs < 18446744073709551616 := by
  have key : ∀ (l : List FRc) (m : Nat), m < 18446744073709551616 → (∀ r ∈ l, r.1 < 18446744073709551616) → l.foldl (fun m r => max m r.1) m < 18446744073709551616 := by
    intro l
    induction l with
    | nil => intro m hm _; exact hm
    | cons x l ih =>
      intro m hm hl
      exact ih _ (by have := hl x List.mem_cons_self; show max m x.1 < _; omega) (fun r hr => hl r (List.mem_cons_of_mem _ hr))
  exact key rs 0 (by omega) h
/-- Some pages of one record more. -/
def spart (a : Nat) (S : Sp) (T : Nat) (pl : List Nat) (j : Nat) : Sp := if T ≤ a then { S with us := S.us ++ pl.take j } else { S with hd := S.hd ++ pl.take j }
theorem spart_zero (a : Nat) (S : Sp) (T : Nat) (pl : List Nat) : whatL (spart a S T pl 0) = whatL S := by
  unfold spart
  split <;> simp
theorem spart_end (a : Nat) (rs : List FRc) (T : Nat) (pl : List Nat) : whatL (spart a (sNew 50 60 a rs) T pl pl.length) = whatL (sNew 50 60 a (rs ++ [(T, pl)])) := by
  unfold spart
  by_cases h : T ≤ a
  · rw [if_pos h, sNew_old h, List.take_length]
  · rw [if_neg h, sNew_new h, List.take_length]
    rfl
theorem spart_step {a : Nat} {S : Sp} {T : Nat} {pl : List Nat} {j q : Nat} (hq : pl[j]? = some q) (hn : q ∉ S.us ∧ q ∉ S.hd) (hn2 : q ∉ pl.take j) : (T ≤ a → ((whatL (spart a S T pl j)).set q 2).set q 1 = whatL (spart a S T pl (j + 1))) ∧ (¬ T ≤ a → (whatL (spart a S T pl j)).set q 2 = whatL (spart a S T pl (j + 1))) := by
  have htk := htk_ hq
  constructor
  · intro h
    rw [List.set_set]
    unfold spart
    rw [if_pos h, if_pos h, htk, ← List.append_assoc]
    exact whatL_set (by unfold pcode; rw [if_pos (by simp)]) (fun x hx => pcode_congr (mem_snoc_ne hx) Iff.rfl Iff.rfl Iff.rfl)
  · intro h
    unfold spart
    rw [if_neg h, if_neg h, htk, ← List.append_assoc]
    exact whatL_set (by unfold pcode; rw [if_neg hn.1, if_pos (by simp)]) (fun x hx => pcode_congr Iff.rfl (mem_snoc_ne hx) Iff.rfl Iff.rfl)
structure ApR (w W : World) (b p g : Nat) (ok : Nat → Prop) (S0 S : Sp) : Prop where
  sp : SpAt W 0 ok p S
  lim : S.lim = 60
  fin : 50 ≤ S.fin
  wait : S.wait = S0.wait
  hd : S.hd = S0.hd
  wh : What W g (whatL S)
  bel : RowKit.Below b w W
theorem take_cases (S : Sp) : S.take = (S, 0, 21) ∨ ∃ S' q, S.take = (S', q, 0) := by
  unfold Sp.take
  split
  · split
    · exact .inl rfl
    · exact .inr ⟨_, _, rfl⟩
  · exact .inr ⟨_, _, rfl⟩
theorem What.sfr {w w' : World} {g : Nat} {l : List Nat} {ok : Nat → Prop} (h : What w g l) (hF : SFr ok w w') (hg : ¬ ok g) : What w' g l := (hF.2.2.2.2 g (blk_lt h) hg).trans h
theorem SpAt.far {w : World} {p g : Nat} {ok : Nat → Prop} {S : Sp} (h : SpAt w 0 ok p S) (hg : ¬ ok g) (i : Nat) (u : Value) : SpAt (w.setCell ⟨g, i, none⟩ u) 0 ok p S :=
  h.move fun k hk ho => ⟨Below.heap_setCell w _ u k (fun e => hg (by have e : k = g := e; rw [← e]; exact ho)), ho⟩
theorem rpAll_len_le {rs : List FRc} {a b : Nat} (h1 : rs.length ≤ a) (h2 : ∀ r ∈ rs, r.2.length ≤ b) : (rpAll rs).length ≤ a * b := by
  have h : ∀ l : List FRc, (∀ r ∈ l, r.2.length ≤ b) → (rpAll l).length ≤ l.length * b := by
    intro l
    induction l with
    | nil => intro _; simp [rpAll]
    | cons r l ih =>
      intro h
      have e1 := h r List.mem_cons_self
      have e2 := ih (fun x hx => h x (List.mem_cons_of_mem _ hx))
      have e3 : rpAll (r :: l) = r.2 ++ rpAll l := rfl
      rw [e3, List.length_append, List.length_cons, Nat.succ_mul]
      omega
  exact Nat.le_trans (h rs h2) (Nat.mul_le_mul_right b h1)
theorem whatL_nil (a : Nat) : whatL (sNew 50 60 a []) = List.replicate 60 0 := rfl
theorem info_int : (Try.prog.info? 3).map (fun i => (i.zero, i.size, i.bytes)) = some (some (.int .i64 0), 1, 8) := by kernel_rfl
theorem wpList_make_ints (w : World) {ops : Array Oper} {rest : List Oper} {o : Oper} {a : Act} {Q : Exit → Act → World → Prop}
    (hg : o.guard = none) (l c : Operand) (t : TypeId) (hop : o.op = Op.makeSlice t l c) (h1 : Try.prog.underlying t = some (.slice 3))
    (kl kc : IntKind) (hl : a.eval l = .int kl 60) (hc : a.eval c = .int kc 60)
    (hK : ∀ w', What w' w.heap.size (List.replicate 60 0) → RowKit.Below w.heap.size w w' → wpList Try.prog ops Q rest (a.put o.dst (.slice (some ⟨w.heap.size, 0, none⟩) 60 60)) w') :
    wpList Try.prog ops Q (o :: rest) a w := by
  obtain ⟨i, h2, h3, h4, h5⟩ := info_parts info_int
  refine wpList_plain hg fun K hK' => ?_
  have hrun := run_make (P := Try.prog) w t 3 i _ h1 h2 h3 kl kc 60 60 (by omega) (Int.le_refl _) (by rw [h5]; decide) (by decide)
  rw [h4] at hrun
  unfold Oper.wp
  simp [execOp, hop, hl, hc, hrun, Result.andThen]
  exact hK' _ _ (hK _ (by unfold What; rw [heap_alloc_new]; first | (simp [madeCells, Value.cells]; done) | decide | kernel_rfl) ((Below.refl _ _).alloc (Nat.le_refl _) _))
theorem recs_of_row {w : World} {base : Nat} {ok : Nat → Prop} {v : Value} {rs : List FRc} (h : WRow w base ok v rs) : ∃ A c, v = .slice A rs.length c ∧ Recs w w.heap.size A rs.length rs := by
  have hh := h
  obtain ⟨A, c, cs, rfl, _⟩ := h.split
  refine ⟨A, c, rfl, rfl, fun i r hi => ?_⟩
  obtain ⟨ad, c', Ap, np, cp, e, hR, _⟩ := hh.rec_ hi
  injection e with e1 e2 e3
  exact ⟨ad, Ap, np, cp, e1, hR⟩
section
variable {B0 B1 B2 B3 B4 B5 B6 B7 B8 B9 Bz By Bx C0 C1 C2 C3 C4 C5 C6 C7 C8 C9 Cz Cy Cx D0 D1 D2 D3 D4 D5 D6 D7 D8 D9 Dz Dy Dx E0 E1 E2 E3 E4 E5 E6 E7 E8 E9 Ez Ey Ex F0 F1 F2 F3 F4 F5 F6 F7 F8 F9 Fz Fy Fx G0 G1 G2 G3 G4 G5 G6 G7 G8 G9 Gz Gy Gx I0 I1 I2 I3 I4 I5 I6 I7 I8 I9 Iz Iy Ix J0 J1 J2 J3 J4 J5 J6 J7 J8 J9 Jz Jy Jx K0 K1 K2 K3 K4 K5 K6 K7 K8 K9 Kz Ky Kx L0 L1 L2 L3 L4 L5 L6 L7 L8 L9 Lz Ly Lx M0 M1 M2 M3 M4 M5 M6 M7 M8 M9 Mz My Mx N0 N1 N2 N3 N4 N5 N6 N7 N8 N9 Nz Ny Nx O0 O1 O2 O3 O4 O5 O6 O7 O8 O9 Oz Oy Ox P0 P1 P2 P3 P4 P5 P6 P7 P8 P9 Pz Py Px Q0 Q1 Q2 Q3 Q4 Q5 Q6 Q7 Q8 Q9 Qz Qy Qx R0 R1 R2 R3 R4 R5 R6 R7 R8 R9 Rz Ry Rx T0 T1 T2 T3 T4 T5 T6 T7 T8 T9 Tz Ty Tx U0 U1 U2 U3 U4 U5 U6 U7 U8 U9 Uz Uy Ux V0 V1 V2 V3 V4 V5 V6 V7 V8 V9 Vz Vy Vx X0 X1 X2 X3 X4 X5 X6 X7 X8 X9 Xz Xy Xx Y0 Y1 Y2 Y3 Y4 Y5 Y6 Y7 Y8 Y9 Yz Yy Yx Z0 Z1 Z2 Z3 Z4 Z5 : Value}
set_option maxRecDepth 1000000 in
set_option maxHeartbeats 4000000 in
theorem sap_1 (w : World) (B g : Nat) (a : Nat) (A : Option Addr) (n c : Nat) (rs : List FRc) (hR : Recs w B A n rs) (hBg : B ≤ g) (hBw : B ≤ w.heap.size) (hw : What w g (whatL (sNew 50 60 a []))) (hr : SpRight rs 50) (hn : n ≤ 10) (hl : ∀ r ∈ rs, r.2.length ≤ 30) (hT : ∀ r ∈ rs, r.1 < 18446744073709551616) {Q : Exit → Act → World → Prop} (hQ : ∀ (W : World) (t15 t16 t53 t54 t55 t56 t57 t58 t59 t60 t61 t62 t63 t64 t65 t66 t67 t68 t69 t70 t71 t72 t73 t74 t75 t76 t77 t78 t79 t80 t81 t82 t83 t84 t85 t86 t87 t88 t89 t90 t91 t92 t93 t94 t95 t96 t97 t98 t99 t100 t101 t102 : Value), At g w W → What W g (whatL (sNew 50 60 a rs)) → Q .normal ⟨#[B0, .int .u64 (a : Int), B2, B3, B4, B5, B6, B7, B8, .slice A n c, Bz, By, Bx, .slice (some ⟨g, 0, none⟩) 60 60, .int .u64 (maxT rs : Int), t15, t16, C4, C5, C6, C7, C8, C9, Cz, Cy, Cx, D0, D1, D2, D3, D4, D5, D6, D7, D8, D9, Dz, Dy, Dx, E0, E1, E2, E3, E4, E5, E6, E7, E8, E9, Ez, Ey, Ex, F0, t53, t54, t55, t56, t57, t58, t59, t60, t61, t62, t63, t64, t65, t66, t67, t68, t69, t70, t71, t72, t73, t74, t75, t76, t77, t78, t79, t80, t81, t82, t83, t84, t85, t86, t87, t88, t89, t90, t91, t92, t93, t94, t95, t96, t97, t98, t99, t100, t101, t102, Jx, K0, K1, K2, K3, K4, K5, K6, K7, K8, K9, Kz, Ky, Kx, L0, L1, L2, L3, L4, L5, L6, L7, L8, L9, Lz, Ly, Lx, M0, M1, M2, M3, M4, M5, M6, M7, M8, M9, Mz, My, Mx, N0, N1, N2, N3, N4, N5, N6, N7, N8, N9, Nz, Ny, Nx, O0, O1, O2, O3, O4, O5, O6, O7, O8, O9, Oz, Oy, Ox, P0, P1, P2, P3, P4, P5, P6, P7, P8, P9, Pz, Py, Px, Q0, Q1, Q2, Q3, Q4, Q5, Q6, Q7, Q8, Q9, Qz, Qy, Qx, R0, R1, R2, R3, R4, R5, R6, R7, R8, R9, Rz, Ry, Rx, T0, T1, T2, T3, T4, T5, T6, T7, T8, T9, Tz, Ty, Tx, U0, U1, U2, U3, U4, U5, U6, U7, U8, U9, Uz, Uy, Ux, V0, V1, V2, V3, V4, V5, V6, V7, V8, V9, Vz, Vy, Vx, X0, X1, X2, X3, X4, X5, X6, X7, X8, X9, Xz, Xy, Xx, Y0, Y1, Y2, Y3, Y4, Y5, Y6, Y7, Y8, Y9, Yz, Yy, Yx, Z0, Z1, Z2, Z3, Z4, Z5], []⟩ W) : Code.wp Try.prog (cutAt [1, 1, 1, 1, 1, 1, 1, 1, 1, 1, 0, 1] (Try.f10.body.getD .skip)) Q ⟨#[B0, .int .u64 (a : Int), B2, B3, B4, B5, B6, B7, B8, .slice A n c, Bz, By, Bx, .slice (some ⟨g, 0, none⟩) 60 60, .int .u64 0, .int .i64 0, C3, C4, C5, C6, C7, C8, C9, Cz, Cy, Cx, D0, D1, D2, D3, D4, D5, D6, D7, D8, D9, Dz, Dy, Dx, E0, E1, E2, E3, E4, E5, E6, E7, E8, E9, Ez, Ey, Ex, F0, F1, F2, F3, F4, F5, F6, F7, F8, F9, Fz, Fy, Fx, G0, G1, G2, G3, G4, G5, G6, G7, G8, G9, Gz, Gy, Gx, I0, I1, I2, I3, I4, I5, I6, I7, I8, I9, Iz, Iy, Ix, J0, J1, J2, J3, J4, J5, J6, J7, J8, J9, Jz, Jy, Jx, K0, K1, K2, K3, K4, K5, K6, K7, K8, K9, Kz, Ky, Kx, L0, L1, L2, L3, L4, L5, L6, L7, L8, L9, Lz, Ly, Lx, M0, M1, M2, M3, M4, M5, M6, M7, M8, M9, Mz, My, Mx, N0, N1, N2, N3, N4, N5, N6, N7, N8, N9, Nz, Ny, Nx, O0, O1, O2, O3, O4, O5, O6, O7, O8, O9, Oz, Oy, Ox, P0, P1, P2, P3, P4, P5, P6, P7, P8, P9, Pz, Py, Px, Q0, Q1, Q2, Q3, Q4, Q5, Q6, Q7, Q8, Q9, Qz, Qy, Qx, R0, R1, R2, R3, R4, R5, R6, R7, R8, R9, Rz, Ry, Rx, T0, T1, T2, T3, T4, T5, T6, T7, T8, T9, Tz, Ty, Tx, U0, U1, U2, U3, U4, U5, U6, U7, U8, U9, Uz, Uy, Ux, V0, V1, V2, V3, V4, V5, V6, V7, V8, V9, Vz, Vy, Vx, X0, X1, X2, X3, X4, X5, X6, X7, X8, X9, Xz, Xy, Xx, Y0, Y1, Y2, Y3, Y4, Y5, Y6, Y7, Y8, Y9, Yz, Yy, Yx, Z0, Z1, Z2, Z3, Z4, Z5], []⟩ w := by
  conv => arg 2; whnf
  have HR := Lib.hid hR
  have HSR := Lib.hid hr
  clear hR hr
  go_wp2_with fail
  go_loopw [14, 15] (fun t i wr => ∃ k : Nat, k ≤ n ∧ t = .int .u64 (maxT (rs.take k) : Int) ∧ i = .int .i64 (k : Int) ∧ Hid (At g w wr) ∧ Hid (What wr g (whatL (sNew 50 60 a (rs.take k))))) (fun _ i _ => n - (intOf i).toNat)
  case atStart => exact ⟨0, Nat.zero_le _, rfl, rfl, Lib.hid (At.refl _ _), Lib.hid (by rw [List.take_zero]; exact hw)⟩
  case round =>
    obtain ⟨k, hk, rfl, rfl, HA, HW⟩ := hrel
    clear hw
    obtain ⟨wo, hwo⟩ : ∃ wo, wo = wr := ⟨_, rfl⟩
    subst hwo
    by_cases hlt : k < n
    · have d1 : decide ((k : Int) < (n : Int)) = true := decide_eq_true (by omega)
      obtain ⟨r, ad, Ap, np, cp, hrk, rfl, hRC0⟩ := HR.out.at_ hlt
      have hrm := List.mem_of_getElem? hrk
      have hnp := hl r hrm
      have hTr := hT r hrm
      have HRR := Lib.hid (HSR.out k r hrk)
      have HRC := Lib.hid hRC0
      have hpl1 : r.2.length = np := by have := hRC0.2.2.2.1; rw [Pgs_length] at this; omega
      have HRK := Lib.hid hrk
      obtain ⟨T, pl⟩ := r
      have hTr : T < 18446744073709551616 := hTr
      have hpl1 : pl.length = np := hpl1
      have hnp : np ≤ 30 := by rw [← hpl1]; exact hnp
      clear hRC0 hrk hrm
      have hcells : ∀ W, At g w W → W.cell? (ad.add (k * 2)) = some (.int .u64 (T : Int)) ∧ W.cell? ⟨(ad.add (k * 2)).block, (ad.add (k * 2)).off + 1, none⟩ = some (.slice Ap np cp) ∧ ∀ (j q : Nat), pl[j]? = some q → ∃ ap, Ap = some ap ∧ W.cell? (ap.add j) = some (.int .u32 (q : Int)) := fun W hA => by
        have hh := HRC.out.below (hA.below hBg hBw)
        refine ⟨hh.2.1, hh.2.2.1, fun j q hq => ?_⟩
        have hj := (List.getElem?_eq_some_iff.1 hq).1
        obtain ⟨ap, u, e, _, hu, hc⟩ := hh.2.2.2.at_ (k := j) (by omega)
        have hu : (Pgs pl)[j]? = some u := hu
        simp only [Pgs, List.getElem?_map, hq, Option.map_some] at hu
        injection hu with hu
        subst hu
        exact ⟨ap, e, hc⟩
      have HC := Lib.hid hcells
      clear hcells
      obtain ⟨top, htop⟩ : ∃ top, maxT (rs.take k) = top := ⟨_, rfl⟩
      have htopb : top < 18446744073709551616 := by rw [← htop]; exact maxT_lt (fun r hr => hT r (List.mem_of_mem_take hr))
      have htn : maxT (rs.take (k + 1)) = max top T := by rw [htk_ HRK.out, maxT_snoc, htop]
      rw [htop]
      have HTN := Lib.hid htn
      clear htop htn
      have hfin : whatL (spart a (sNew 50 60 a (rs.take k)) T pl np) = whatL (sNew 50 60 a (rs.take (k + 1))) := by rw [htk_ HRK.out, ← hpl1]; exact spart_end _ _ _ _
      have HFI := Lib.hid hfin
      clear hfin
      obtain ⟨c0, c1, _⟩ := HC.out wo HA.out
      go_wp2_with fail
      clear c0 c1
      go_loopw [16] (fun i wr => ∃ j : Nat, j ≤ np ∧ i = .int .i64 (j : Int) ∧ Hid (At g w wr) ∧ Hid (What wr g (whatL (spart a (sNew 50 60 a (rs.take k)) T pl j)))) (fun i _ => np - (intOf i).toNat)
      case atStart => exact ⟨0, Nat.zero_le _, rfl, HA, Lib.hid (by rw [spart_zero]; exact HW.out)⟩
      case round =>
        obtain ⟨j, hj, rfl, HA2, HW2⟩ := hrel
        obtain ⟨wi, hwi⟩ : ∃ wi, wi = wr := ⟨_, rfl⟩
        subst hwi
        obtain ⟨c0, c1, c2⟩ := HC.out wi HA2.out
        by_cases hlt2 : j < np
        · have d2 : decide ((j : Int) < (np : Int)) = true := decide_eq_true (by omega)
          obtain ⟨q, hq⟩ : ∃ q, pl[j]? = some q := ⟨_, List.getElem?_eq_getElem (by omega)⟩
          obtain ⟨ap, rfl, cq⟩ := c2 j q hq
          obtain ⟨r1, r2, r3, r4⟩ := HRR.out.2.2 j q hq
          have hnm := (sNew_mem (e := 50) (l := 60) (o := a) (rs := rs.take k) (p := q))
          have hst := spart_step (a := a) (S := sNew 50 60 a (rs.take k)) (T := T) hq ⟨fun h => r4 (List.mem_append.2 (.inl (hnm.1 (.inl h)))), fun h => r4 (List.mem_append.2 (.inl (hnm.1 (.inr h))))⟩ (fun h => r4 (List.mem_append.2 (.inr h)))
          obtain ⟨v0, hv0⟩ : ∃ v, (whatL (spart a (sNew 50 60 a (rs.take k)) T pl j))[q]? = some v := ⟨_, whatL_at _ (by omega)⟩
          have w0 := HW2.out.cell hv0
          have f0 := HW2.out.free q
          have hW3 := HW2.out.set q 2
          have hA3 := HA2.out.setCell q (.int .i64 2)
          obtain ⟨k0, k1, _⟩ := HC.out _ hA3
          have k2 := ((HC.out _ hA3).2.2 j q hq)
          obtain ⟨_, e9, k2⟩ := k2
          cases e9
          have w1 : (wi.setCell ⟨g, q, none⟩ (.int .i64 2)).cell? ⟨g, q, none⟩ = some (.int .i64 2) := hW3.cell (by rw [List.getElem?_set_self (by rw [whatL_length]; omega)])
          have f1 := hW3.free q
          have HST := Lib.hid hst
          have HW3 := Lib.hid hW3
          have HA3 := Lib.hid hA3
          clear hst r3 r4 hnm hv0 hq hW3 hA3 c2
          by_cases hTa : T ≤ a
          · have d3 : decide ((T : Int) ≤ (a : Int)) = true := decide_eq_true (by omega)
            have d3' : decide (T ≤ a) = true := decide_eq_true hTa
            have HW4 := Lib.hid (HW3.out.set q 1)
            have HA4 := Lib.hid (HA3.out.setCell q (.int .i64 1))
            go_wp2_with fail
            exact ⟨⟨j + 1, by omega, by go_num, HA4, Lib.hid (by rw [← HST.out.1 hTa]; exact HW4.out)⟩, by simp [intOf]; omega⟩
          · have d3 : decide ((T : Int) ≤ (a : Int)) = false := decide_eq_false (by omega)
            have d3' : decide (T ≤ a) = false := decide_eq_false hTa
            go_wp2_with fail
            exact ⟨⟨j + 1, by omega, by go_num, HA3, Lib.hid (by rw [← HST.out.2 hTa]; exact HW3.out)⟩, by simp [intOf]; omega⟩
        · obtain rfl : j = np := by omega
          have d2 : decide ((j : Int) < (j : Int)) = false := decide_eq_false (by omega)
          clear c2
          have HW4 : Hid (What wi g (whatL (sNew 50 60 a (rs.take (k + 1))))) := Lib.hid (by rw [← HFI.out]; exact HW2.out)
          go_wp2_with fail
          exact ⟨⟨k + 1, by omega, by rw [HTN.out]; congr 1; omega, by go_num, HA2, HW4⟩, by simp [intOf]; omega⟩
    · obtain rfl : k = n := by omega
      have d1 : decide ((k : Int) < (k : Int)) = false := decide_eq_false (by omega)
      have hall : rs.take k = rs := List.take_of_length_le (by rw [HR.out.1]; exact Nat.le_refl _)
      rw [hall] at HW ⊢
      go_wp2_with fail
      exact hQ _ _ _ _ _ _ _ _ _ _ _ _ _ _ _ _ _ _ _ _ _ _ _ _ _ _ _ _ _ _ _ _ _ _ _ _ _ _ _ _ _ _ _ _ _ _ _ _ _ _ _ _ _ HA.out HW.out
set_option maxRecDepth 1000000 in
set_option maxHeartbeats 4000000 in
theorem sap_3 (w w0 : World) (b p g : Nat) (ok : Nat → Prop) (S0 S : Sp) (A3 : Option Addr) (n3 c3 : Nat) (hA : SActs w0 b A3 n3) (hb : b ≤ w0.heap.size) (hbg : b ≤ g) (hg : ¬ ok g) (hkk : ∀ k, k < b → ¬ ok k) (h : ApR w0 w b p g ok S0 S) {Q : Exit → Act → World → Prop} (hQ : ∀ (S' : Sp) (W : World) (t6 t17 t18 t19 t20 t103 t104 t105 t106 t107 t108 t109 t110 t111 t112 t113 t114 t115 t116 t117 t118 t119 t120 t121 t122 t123 t124 t125 t126 t127 t128 t129 t130 t131 t132 t133 t134 t135 t136 t137 t138 t139 t140 t141 t142 t143 t144 t145 t146 t147 t148 t149 t150 t151 t152 t153 t154 t155 t156 t157 t158 t159 t160 t161 t162 t163 t164 t165 t166 t167 t168 t169 t170 t171 t172 t173 t174 t175 t176 t177 t178 t179 t180 t181 t182 t183 t184 t185 t186 t187 t188 t189 t190 : Value), ApR w0 W b p g ok S0 S' → Q .normal ⟨#[B0, B1, .slice A3 n3 c3, B3, B4, B5, t6, B7, B8, B9, Bz, .pointer (some ⟨p, 0, none⟩), Bx, .slice (some ⟨g, 0, none⟩) 60 60, C1, C2, C3, t17, t18, t19, t20, C8, C9, Cz, Cy, Cx, D0, D1, D2, D3, D4, D5, D6, D7, D8, D9, Dz, Dy, Dx, E0, E1, E2, E3, E4, E5, E6, E7, E8, E9, Ez, Ey, Ex, F0, F1, F2, F3, F4, F5, F6, F7, F8, F9, Fz, Fy, Fx, G0, G1, G2, G3, G4, G5, G6, G7, G8, G9, Gz, Gy, Gx, I0, I1, I2, I3, I4, I5, I6, I7, I8, I9, Iz, Iy, Ix, J0, J1, J2, J3, J4, J5, J6, J7, J8, J9, Jz, Jy, t103, t104, t105, t106, t107, t108, t109, t110, t111, t112, t113, t114, t115, t116, t117, t118, t119, t120, t121, t122, t123, t124, t125, t126, t127, t128, t129, t130, t131, t132, t133, t134, t135, t136, t137, t138, t139, t140, t141, t142, t143, t144, t145, t146, t147, t148, t149, t150, t151, t152, t153, t154, t155, t156, t157, t158, t159, t160, t161, t162, t163, t164, t165, t166, t167, t168, t169, t170, t171, t172, t173, t174, t175, t176, t177, t178, t179, t180, t181, t182, t183, t184, t185, t186, t187, t188, t189, t190, Q9, Qz, Qy, Qx, R0, R1, R2, R3, R4, R5, R6, R7, R8, R9, Rz, Ry, Rx, T0, T1, T2, T3, T4, T5, T6, T7, T8, T9, Tz, Ty, Tx, U0, U1, U2, U3, U4, U5, U6, U7, U8, U9, Uz, Uy, Ux, V0, V1, V2, V3, V4, V5, V6, V7, V8, V9, Vz, Vy, Vx, X0, X1, X2, X3, X4, X5, X6, X7, X8, X9, Xz, Xy, Xx, Y0, Y1, Y2, Y3, Y4, Y5, Y6, Y7, Y8, Y9, Yz, Yy, Yx, Z0, Z1, Z2, Z3, Z4, Z5], []⟩ W) : Code.wp Try.prog (cutAt [1, 1, 1, 1, 1, 1, 1, 1, 1, 1, 1, 0, 1] (Try.f10.body.getD .skip)) Q ⟨#[B0, B1, .slice A3 n3 c3, B3, B4, B5, B6, B7, B8, B9, Bz, .pointer (some ⟨p, 0, none⟩), Bx, .slice (some ⟨g, 0, none⟩) 60 60, C1, C2, C3, .int .i64 0, C5, C6, C7, C8, C9, Cz, Cy, Cx, D0, D1, D2, D3, D4, D5, D6, D7, D8, D9, Dz, Dy, Dx, E0, E1, E2, E3, E4, E5, E6, E7, E8, E9, Ez, Ey, Ex, F0, F1, F2, F3, F4, F5, F6, F7, F8, F9, Fz, Fy, Fx, G0, G1, G2, G3, G4, G5, G6, G7, G8, G9, Gz, Gy, Gx, I0, I1, I2, I3, I4, I5, I6, I7, I8, I9, Iz, Iy, Ix, J0, J1, J2, J3, J4, J5, J6, J7, J8, J9, Jz, Jy, Jx, K0, K1, K2, K3, K4, K5, K6, K7, K8, K9, Kz, Ky, Kx, L0, L1, L2, L3, L4, L5, L6, L7, L8, L9, Lz, Ly, Lx, M0, M1, M2, M3, M4, M5, M6, M7, M8, M9, Mz, My, Mx, N0, N1, N2, N3, N4, N5, N6, N7, N8, N9, Nz, Ny, Nx, O0, O1, O2, O3, O4, O5, O6, O7, O8, O9, Oz, Oy, Ox, P0, P1, P2, P3, P4, P5, P6, P7, P8, P9, Pz, Py, Px, Q0, Q1, Q2, Q3, Q4, Q5, Q6, Q7, Q8, Q9, Qz, Qy, Qx, R0, R1, R2, R3, R4, R5, R6, R7, R8, R9, Rz, Ry, Rx, T0, T1, T2, T3, T4, T5, T6, T7, T8, T9, Tz, Ty, Tx, U0, U1, U2, U3, U4, U5, U6, U7, U8, U9, Uz, Uy, Ux, V0, V1, V2, V3, V4, V5, V6, V7, V8, V9, Vz, Vy, Vx, X0, X1, X2, X3, X4, X5, X6, X7, X8, X9, Xz, Xy, Xx, Y0, Y1, Y2, Y3, Y4, Y5, Y6, Y7, Y8, Y9, Yz, Yy, Yx, Z0, Z1, Z2, Z3, Z4, Z5], []⟩ w := by
  conv => arg 2; whnf
  have HAC := Lib.hid hA
  have hbz := h.bel.size
  clear hA
  go_wp2_with fail
  go_loopw [17] (fun i wr => ∃ (k : Nat) (Sk : Sp), k ≤ n3 ∧ k ≤ 60 ∧ i = .int .i64 (k : Int) ∧ Hid (ApR w0 wr b p g ok S0 Sk)) (fun i _ => 60 - (intOf i).toNat)
  case atStart => exact ⟨0, S, Nat.zero_le _, Nat.zero_le _, rfl, Lib.hid h⟩
  case round =>
    obtain ⟨k, Sk, hk, hk60, rfl, HP⟩ := hrel
    clear h hbz
    obtain ⟨wo, hwo⟩ : ∃ wo, wo = wr := ⟨_, rfl⟩
    subst hwo
    obtain ⟨hsp, hlim, hfin, hwt, hhd, hwh, hbel⟩ := HP.out
    have hzo := hbel.size
    by_cases hlt : k < n3 ∧ k < 60
    · obtain ⟨hl1, hl2⟩ := hlt
      have d1 : decide ((k : Int) < (n3 : Int)) = true := decide_eq_true (by omega)
      have d2 : decide ((k : Int) < 60) = true := decide_eq_true (by omega)
      obtain ⟨ad, kd, pg, rfl, hadB, a0, a1, hkd, hpg⟩ := (HAC.out.below hbel) k hl1
      obtain ⟨K, hK⟩ : ∃ K, bits BinOp.and IntKind.u8 (kd : Int) 1 = K := ⟨_, rfl⟩
      have HS := Lib.hid hsp
      have HW := Lib.hid hwh
      have HB := Lib.hid hbel
      have hwf := hsp.wf
      clear hsp hwh hbel
      obtain ⟨t, ht⟩ : ∃ t, (K == 0) = t := ⟨_, rfl⟩
      cases t with
      | true =>
        have htake := stake_any HS.out
        unfold STakeP at htake
        rcases take_cases Sk with hst | ⟨S', q, hst⟩
        · rw [hst] at htake
          go_wp2_with fail
          refine htake.mono ?_
          rintro x w6 ⟨rfl, hS6, hF6⟩
          clear htake
          have HP6 : Hid (ApR w0 w6 b p g ok S0 Sk) := Lib.hid ⟨hS6, hlim, hfin, hwt, hhd, HW.out.sfr hF6 hg, HB.out.trans (hF6.below (by omega) hkk)⟩
          clear hS6 hF6
          go_wp2_with fail
          exact ⟨⟨k + 1, Sk, by omega, by omega, by go_num, HP6⟩, by simp [intOf]; omega⟩
        · obtain ⟨c1, c2, c3, c4, c5, c6, c7, c8, c9⟩ := take_code hwf hlim hfin hst
          rw [hst] at htake
          go_wp2_with fail
          refine htake.mono ?_
          rintro x w6 ⟨rfl, hS6, hF6⟩
          clear htake
          have hW6 := HW.out.sfr hF6 hg
          have hB6 := HB.out.trans (hF6.below (by omega) hkk)
          obtain ⟨v, hv⟩ : ∃ v, pcode Sk q = v := ⟨_, rfl⟩
          have hvc := hW6.cell (whatL_at Sk c3)
          rw [hv] at hvc c4 c5
          have hvf := hW6.free q
          have HP6 : Hid (ApR w0 (w6.setCell ⟨g, q, none⟩ (.int .i64 3)) b p g ok S0 S') := Lib.hid ⟨hS6.far hg q _, c6, c7, c8.trans hwt, c9.trans hhd, by rw [← c1]; exact hW6.set q 3, hB6.setCell hbg _⟩
          have e1 : decide ((q : Int) < 2) = false := decide_eq_false (by omega)
          have e2 : decide ((60 : Int) ≤ (q : Int)) = false := decide_eq_false (by omega)
          clear hS6 hF6 c1 hW6 hv
          by_cases hq50 : q < 50
          · have e3 : decide ((q : Int) < 50) = true := decide_eq_true (by omega)
            have e4 : decide ((50 : Int) ≤ (q : Int)) = false := decide_eq_false (by omega)
            have hv1 := c4 hq50
            subst hv1
            go_wp2_with fail
            exact ⟨⟨k + 1, S', by omega, by omega, by go_num, HP6⟩, by simp [intOf]; omega⟩
          · have e3 : decide ((q : Int) < 50) = false := decide_eq_false (by omega)
            have e4 : decide ((50 : Int) ≤ (q : Int)) = true := decide_eq_true (by omega)
            have e5 : decide ((1 : Int) < (v : Int)) = false := decide_eq_false (by omega)
            have e5' : decide (1 < v) = false := decide_eq_false (by omega)
            go_wp2_with fail
            exact ⟨⟨k + 1, S', by omega, by omega, by go_num, HP6⟩, by simp [intOf]; omega⟩
      | false =>
        obtain ⟨q, hq⟩ : ∃ q, pg % 60 = q := ⟨_, rfl⟩
        have hq60 : q < 60 := by omega
        have hqi : (pg : Int) % 60 = (q : Int) := by omega
        obtain ⟨S', er, hgv⟩ : ∃ S' er, Sk.give q = (S', er) := ⟨_, _, rfl⟩
        obtain ⟨⟨l1, l2, l3, l4⟩, hcs⟩ := give_code hwf hgv
        have hgive := sgive_any HS.out q (by omega)
        unfold SGiveP at hgive
        rw [hgv] at hgive
        clear hq
        go_wp2_with fail
        refine hgive.mono ?_
        rintro x w6 ⟨rfl, hS6, hF6⟩
        clear hgive
        have hW6 := HW.out.sfr hF6 hg
        have hB6 := HB.out.trans (hF6.below (by omega) hkk)
        have hvc := hW6.cell (whatL_at Sk hq60)
        have hvf := hW6.free q
        rcases hcs with ⟨rfl, rfl⟩ | ⟨rfl, hc, hset⟩ | ⟨rfl, hc, hset⟩
        · have HP6 : Hid (ApR w0 w6 b p g ok S0 S') := Lib.hid ⟨hS6, hlim, hfin, hwt, hhd, hW6, hB6⟩
          clear hS6 hF6 hvc hvf hW6 hgv
          go_wp2_with fail
          exact ⟨⟨k + 1, S', by omega, by omega, by go_num, HP6⟩, by simp [intOf]; omega⟩
        · rw [hc] at hvc
          have HP6 : Hid (ApR w0 (w6.setCell ⟨g, q, none⟩ (.int .i64 1)) b p g ok S0 S') := Lib.hid ⟨hS6.far hg q _, by omega, by omega, l3.trans hwt, l4.trans hhd, by rw [← hset]; exact hW6.set q 1, hB6.setCell hbg _⟩
          clear hS6 hF6 hW6 hgv hset hc
          go_wp2_with fail
          exact ⟨⟨k + 1, S', by omega, by omega, by go_num, HP6⟩, by simp [intOf]; omega⟩
        · rw [hc] at hvc
          have HP6 : Hid (ApR w0 (w6.setCell ⟨g, q, none⟩ (.int .i64 4)) b p g ok S0 S') := Lib.hid ⟨hS6.far hg q _, by omega, by omega, l3.trans hwt, l4.trans hhd, by rw [← hset]; exact hW6.set q 4, hB6.setCell hbg _⟩
          clear hS6 hF6 hW6 hgv hset hc
          go_wp2_with fail
          exact ⟨⟨k + 1, S', by omega, by omega, by go_num, HP6⟩, by simp [intOf]; omega⟩
    · clear hsp hwh hbel
      by_cases hl1 : k < n3
      · have d1 : decide ((k : Int) < (n3 : Int)) = true := decide_eq_true (by omega)
        have d2 : decide ((k : Int) < 60) = false := decide_eq_false (by omega)
        go_wp2_with fail
        exact hQ _ _ _ _ _ _ _ _ _ _ _ _ _ _ _ _ _ _ _ _ _ _ _ _ _ _ _ _ _ _ _ _ _ _ _ _ _ _ _ _ _ _ _ _ _ _ _ _ _ _ _ _ _ _ _ _ _ _ _ _ _ _ _ _ _ _ _ _ _ _ _ _ _ _ _ _ _ _ _ _ _ _ _ _ _ _ _ _ _ _ _ _ _ _ _ HP.out
      · have d1 : decide ((k : Int) < (n3 : Int)) = false := decide_eq_false (by omega)
        go_wp2_with fail
        exact hQ _ _ _ _ _ _ _ _ _ _ _ _ _ _ _ _ _ _ _ _ _ _ _ _ _ _ _ _ _ _ _ _ _ _ _ _ _ _ _ _ _ _ _ _ _ _ _ _ _ _ _ _ _ _ _ _ _ _ _ _ _ _ _ _ _ _ _ _ _ _ _ _ _ _ _ _ _ _ _ _ _ _ _ _ _ _ _ _ _ _ _ _ _ _ _ HP.out
set_option maxRecDepth 1000000 in
set_option maxHeartbeats 4000000 in
theorem sap_4 (w : World) (B g : Nat) (A : Option Addr) (n c : Nat) (rs : List FRc) (l : List Nat) (hR : Recs w B A n rs) (hn : n ≤ 1000) (hl : (rpAll rs).length ≤ 100) (hw : What w g l) (hq : ∀ q ∈ rpAll rs, q < 60 ∧ ∃ v, l[q]? = some v ∧ (v = 1 ∨ v = 2 ∨ v = 4)) {Q : Exit → Act → World → Prop} (hQ : ∀ (W : World) (t6 t23 t24 t25 t197 t198 t199 t200 t201 t202 t203 t204 t205 t206 t207 t208 t209 t210 t211 t212 t213 t214 t215 t216 t217 t218 t219 t220 t221 t222 t223 t224 t225 t226 t227 t228 t229 t230 t231 t232 t233 t234 t235 t236 t237 t238 t239 t240 t241 t242 t243 t244 t245 : Value), W = w → Q .normal ⟨#[B0, B1, B2, B3, B4, B5, t6, B7, B8, B9, Bz, By, Bx, .slice (some ⟨g, 0, none⟩) 60 60, C1, C2, C3, C4, C5, C6, C7, .slice A n c, .int .i64 ((rpAll rs).length : Int), t23, t24, t25, D0, D1, D2, D3, D4, D5, D6, D7, D8, D9, Dz, Dy, Dx, E0, E1, E2, E3, E4, E5, E6, E7, E8, E9, Ez, Ey, Ex, F0, F1, F2, F3, F4, F5, F6, F7, F8, F9, Fz, Fy, Fx, G0, G1, G2, G3, G4, G5, G6, G7, G8, G9, Gz, Gy, Gx, I0, I1, I2, I3, I4, I5, I6, I7, I8, I9, Iz, Iy, Ix, J0, J1, J2, J3, J4, J5, J6, J7, J8, J9, Jz, Jy, Jx, K0, K1, K2, K3, K4, K5, K6, K7, K8, K9, Kz, Ky, Kx, L0, L1, L2, L3, L4, L5, L6, L7, L8, L9, Lz, Ly, Lx, M0, M1, M2, M3, M4, M5, M6, M7, M8, M9, Mz, My, Mx, N0, N1, N2, N3, N4, N5, N6, N7, N8, N9, Nz, Ny, Nx, O0, O1, O2, O3, O4, O5, O6, O7, O8, O9, Oz, Oy, Ox, P0, P1, P2, P3, P4, P5, P6, P7, P8, P9, Pz, Py, Px, Q0, Q1, Q2, Q3, Q4, Q5, Q6, Q7, Q8, Q9, Qz, Qy, Qx, R0, R1, t197, t198, t199, t200, t201, t202, t203, t204, t205, t206, t207, t208, t209, t210, t211, t212, t213, t214, t215, t216, t217, t218, t219, t220, t221, t222, t223, t224, t225, t226, t227, t228, t229, t230, t231, t232, t233, t234, t235, t236, t237, t238, t239, t240, t241, t242, t243, t244, t245, Vx, X0, X1, X2, X3, X4, X5, X6, X7, X8, X9, Xz, Xy, Xx, Y0, Y1, Y2, Y3, Y4, Y5, Y6, Y7, Y8, Y9, Yz, Yy, Yx, Z0, Z1, Z2, Z3, Z4, Z5], []⟩ W) : Code.wp Try.prog (cutAt [1, 1, 1, 1, 1, 1, 1, 1, 1, 1, 1, 1, 1, 1, 1, 0, 1] (Try.f10.body.getD .skip)) Q ⟨#[B0, B1, B2, B3, B4, B5, B6, B7, B8, B9, Bz, By, Bx, .slice (some ⟨g, 0, none⟩) 60 60, C1, C2, C3, C4, C5, C6, C7, .slice A n c, .int .i64 0, .int .i64 0, Cy, Cx, D0, D1, D2, D3, D4, D5, D6, D7, D8, D9, Dz, Dy, Dx, E0, E1, E2, E3, E4, E5, E6, E7, E8, E9, Ez, Ey, Ex, F0, F1, F2, F3, F4, F5, F6, F7, F8, F9, Fz, Fy, Fx, G0, G1, G2, G3, G4, G5, G6, G7, G8, G9, Gz, Gy, Gx, I0, I1, I2, I3, I4, I5, I6, I7, I8, I9, Iz, Iy, Ix, J0, J1, J2, J3, J4, J5, J6, J7, J8, J9, Jz, Jy, Jx, K0, K1, K2, K3, K4, K5, K6, K7, K8, K9, Kz, Ky, Kx, L0, L1, L2, L3, L4, L5, L6, L7, L8, L9, Lz, Ly, Lx, M0, M1, M2, M3, M4, M5, M6, M7, M8, M9, Mz, My, Mx, N0, N1, N2, N3, N4, N5, N6, N7, N8, N9, Nz, Ny, Nx, O0, O1, O2, O3, O4, O5, O6, O7, O8, O9, Oz, Oy, Ox, P0, P1, P2, P3, P4, P5, P6, P7, P8, P9, Pz, Py, Px, Q0, Q1, Q2, Q3, Q4, Q5, Q6, Q7, Q8, Q9, Qz, Qy, Qx, R0, R1, R2, R3, R4, R5, R6, R7, R8, R9, Rz, Ry, Rx, T0, T1, T2, T3, T4, T5, T6, T7, T8, T9, Tz, Ty, Tx, U0, U1, U2, U3, U4, U5, U6, U7, U8, U9, Uz, Uy, Ux, V0, V1, V2, V3, V4, V5, V6, V7, V8, V9, Vz, Vy, Vx, X0, X1, X2, X3, X4, X5, X6, X7, X8, X9, Xz, Xy, Xx, Y0, Y1, Y2, Y3, Y4, Y5, Y6, Y7, Y8, Y9, Yz, Yy, Yx, Z0, Z1, Z2, Z3, Z4, Z5], []⟩ w := by
  conv => arg 2; whnf
  have HR := Lib.hid hR
  have hlen := hR.1
  have HQ := Lib.hid hq
  have HW := Lib.hid hw
  clear hR hq hw
  go_wp2_with fail
  go_loopw [22, 23] (fun s i wr => ∃ k : Nat, k ≤ n ∧ s = .int .i64 ((rpAll (rs.take k)).length : Int) ∧ i = .int .i64 (k : Int) ∧ wr = w) (fun _ i _ => n - (intOf i).toNat)
  case atStart => exact ⟨0, Nat.zero_le _, by simp [rpAll], rfl, rfl⟩
  case round =>
    obtain ⟨k, hk, rfl, rfl, rfl⟩ := hrel
    by_cases hlt : k < n
    · have d1 : decide ((k : Int) < (n : Int)) = true := decide_eq_true (by omega)
      obtain ⟨r, ad, Ap, np, cp, hrk, rfl, hRC⟩ := HR.out.at_ hlt
      obtain ⟨hadB, _, cb, hpg⟩ := hRC
      have cb : wr.cell? ⟨(ad.add (k * 2)).block, (ad.add (k * 2)).off + 1, none⟩ = some (.slice Ap np cp) := cb
      have hnp : r.2.length = np := by have := hpg.1; rw [Pgs_length] at this; omega
      have hle := rpAll_take_le rs hrk r.2.length
      have hsn : (rpAll (rs.take (k + 1))).length = (rpAll (rs.take k)).length + np := by rw [htk_ hrk, rpAll_app, rpAll_one, List.length_append, hnp]
      rw [List.length_append, List.length_take, Nat.min_self, hnp] at hle
      have hmem : ∀ q ∈ r.2, q ∈ rpAll rs := fun q hq => rpAll_mem.2 ⟨r, List.mem_of_getElem? hrk, hq⟩
      obtain ⟨s, hs⟩ : ∃ s, (rpAll (rs.take k)).length = s := ⟨_, rfl⟩
      rw [hs] at hsn hle ⊢
      have HSN := Lib.hid hsn
      have HPG := Lib.hid hpg
      have HM := Lib.hid hmem
      clear hs hsn hpg hrk hmem
      go_wp2_with fail
      go_loopw [22, 24] (fun t i wr2 => ∃ j : Nat, j ≤ np ∧ t = .int .i64 ((s + j : Nat) : Int) ∧ i = .int .i64 (j : Int) ∧ wr2 = wr) (fun _ i _ => np - (intOf i).toNat)
      case atStart => exact ⟨0, Nat.zero_le _, rfl, rfl, rfl⟩
      case round =>
        obtain ⟨j, hj, rfl, rfl, rfl⟩ := hrel
        by_cases hlt2 : j < np
        · have d2 : decide ((j : Int) < (np : Int)) = true := decide_eq_true (by omega)
          obtain ⟨q, hq⟩ : ∃ q, r.2[j]? = some q := ⟨_, List.getElem?_eq_getElem (by omega)⟩
          obtain ⟨ap, u, rfl, _, hu, hcu⟩ := HPG.out.at_ hlt2
          have huq : u = .int .u32 (q : Int) := by
            simp only [Pgs, List.getElem?_map, hq, Option.map_some] at hu
            exact (Option.some.inj hu).symm
          subst huq
          obtain ⟨hq60, v, hv, hv3⟩ := HQ.out q (HM.out q (List.mem_of_getElem? hq))
          have hvc := HW.out.cell hv
          have e2 : decide ((60 : Int) ≤ (q : Int)) = false := decide_eq_false (by omega)
          clear hu hq hv
          rcases hv3 with rfl | rfl | rfl
          all_goals
            go_wp2_with fail
            exact ⟨⟨j + 1, by omega, by go_num, by go_num, trivial⟩, by simp [intOf]; omega⟩
        · obtain rfl : j = np := by omega
          have d2 : decide ((j : Int) < (j : Int)) = false := decide_eq_false (by omega)
          go_wp2_with fail
          exact ⟨⟨k + 1, by omega, by rw [HSN.out], by go_num, trivial⟩, by simp [intOf]; omega⟩
    · obtain rfl : k = n := by omega
      have d1 : decide ((k : Int) < (k : Int)) = false := decide_eq_false (by omega)
      have hall : rs.take k = rs := List.take_of_length_le (by omega)
      rw [hall]
      go_wp2_with fail
      first | rfl | exact hQ _ _ _ _ _ _ _ _ _ _ _ _ _ _ _ _ _ _ _ _ _ _ _ _ _ _ _ _ _ _ _ _ _ _ _ _ _ _ _ _ _ _ _ _ _ _ _ _ _ _ _ _ _ _ rfl
set_option maxRecDepth 1000000 in
set_option maxHeartbeats 4000000 in
theorem sap_6 (w : World) (g N : Nat) (S : Sp) (hN : N ≤ 1000) (hw : What w g (whatL S)) {Q : Exit → Act → World → Prop} (hQ : ∀ (W : World) (t26 t246 t247 t248 t249 t250 t251 t252 t253 t254 t255 t256 t257 t258 t259 t260 t261 t262 t263 t264 t265 t266 t267 t268 t269 t270 : Value), W = w → Q .normal ⟨#[B0, B1, B2, B3, B4, B5, B6, B7, B8, B9, Bz, By, Bx, .slice (some ⟨g, 0, none⟩) 60 60, C1, C2, C3, C4, C5, C6, C7, C8, .int .i64 ((N : Int) - ((frees S).length : Int)), Cz, Cy, Cx, t26, D1, D2, D3, D4, D5, D6, D7, D8, D9, Dz, Dy, Dx, E0, E1, E2, E3, E4, E5, E6, E7, E8, E9, Ez, Ey, Ex, F0, F1, F2, F3, F4, F5, F6, F7, F8, F9, Fz, Fy, Fx, G0, G1, G2, G3, G4, G5, G6, G7, G8, G9, Gz, Gy, Gx, I0, I1, I2, I3, I4, I5, I6, I7, I8, I9, Iz, Iy, Ix, J0, J1, J2, J3, J4, J5, J6, J7, J8, J9, Jz, Jy, Jx, K0, K1, K2, K3, K4, K5, K6, K7, K8, K9, Kz, Ky, Kx, L0, L1, L2, L3, L4, L5, L6, L7, L8, L9, Lz, Ly, Lx, M0, M1, M2, M3, M4, M5, M6, M7, M8, M9, Mz, My, Mx, N0, N1, N2, N3, N4, N5, N6, N7, N8, N9, Nz, Ny, Nx, O0, O1, O2, O3, O4, O5, O6, O7, O8, O9, Oz, Oy, Ox, P0, P1, P2, P3, P4, P5, P6, P7, P8, P9, Pz, Py, Px, Q0, Q1, Q2, Q3, Q4, Q5, Q6, Q7, Q8, Q9, Qz, Qy, Qx, R0, R1, R2, R3, R4, R5, R6, R7, R8, R9, Rz, Ry, Rx, T0, T1, T2, T3, T4, T5, T6, T7, T8, T9, Tz, Ty, Tx, U0, U1, U2, U3, U4, U5, U6, U7, U8, U9, Uz, Uy, Ux, V0, V1, V2, V3, V4, V5, V6, V7, V8, V9, Vz, Vy, t246, t247, t248, t249, t250, t251, t252, t253, t254, t255, t256, t257, t258, t259, t260, t261, t262, t263, t264, t265, t266, t267, t268, t269, t270, Yy, Yx, Z0, Z1, Z2, Z3, Z4, Z5], []⟩ W) : Code.wp Try.prog (cutAt [1, 1, 1, 1, 1, 1, 1, 1, 1, 1, 1, 1, 1, 1, 1, 1, 0, 1] (Try.f10.body.getD .skip)) Q ⟨#[B0, B1, B2, B3, B4, B5, B6, B7, B8, B9, Bz, By, Bx, .slice (some ⟨g, 0, none⟩) 60 60, C1, C2, C3, C4, C5, C6, C7, C8, .int .i64 (N : Int), Cz, Cy, Cx, .int .i64 0, D1, D2, D3, D4, D5, D6, D7, D8, D9, Dz, Dy, Dx, E0, E1, E2, E3, E4, E5, E6, E7, E8, E9, Ez, Ey, Ex, F0, F1, F2, F3, F4, F5, F6, F7, F8, F9, Fz, Fy, Fx, G0, G1, G2, G3, G4, G5, G6, G7, G8, G9, Gz, Gy, Gx, I0, I1, I2, I3, I4, I5, I6, I7, I8, I9, Iz, Iy, Ix, J0, J1, J2, J3, J4, J5, J6, J7, J8, J9, Jz, Jy, Jx, K0, K1, K2, K3, K4, K5, K6, K7, K8, K9, Kz, Ky, Kx, L0, L1, L2, L3, L4, L5, L6, L7, L8, L9, Lz, Ly, Lx, M0, M1, M2, M3, M4, M5, M6, M7, M8, M9, Mz, My, Mx, N0, N1, N2, N3, N4, N5, N6, N7, N8, N9, Nz, Ny, Nx, O0, O1, O2, O3, O4, O5, O6, O7, O8, O9, Oz, Oy, Ox, P0, P1, P2, P3, P4, P5, P6, P7, P8, P9, Pz, Py, Px, Q0, Q1, Q2, Q3, Q4, Q5, Q6, Q7, Q8, Q9, Qz, Qy, Qx, R0, R1, R2, R3, R4, R5, R6, R7, R8, R9, Rz, Ry, Rx, T0, T1, T2, T3, T4, T5, T6, T7, T8, T9, Tz, Ty, Tx, U0, U1, U2, U3, U4, U5, U6, U7, U8, U9, Uz, Uy, Ux, V0, V1, V2, V3, V4, V5, V6, V7, V8, V9, Vz, Vy, Vx, X0, X1, X2, X3, X4, X5, X6, X7, X8, X9, Xz, Xy, Xx, Y0, Y1, Y2, Y3, Y4, Y5, Y6, Y7, Y8, Y9, Yz, Yy, Yx, Z0, Z1, Z2, Z3, Z4, Z5], []⟩ w := by
  conv => arg 2; whnf
  have HW := Lib.hid hw
  clear hw
  go_wp2_with fail
  go_loopw [22, 26] (fun s i wr => ∃ j m : Nat, j ≤ 60 ∧ m ≤ j ∧ m = ((List.range j).filter fun q => pcode S q == 1 || pcode S q == 2 || pcode S q == 4).length ∧ s = .int .i64 ((N : Int) - (m : Int)) ∧ i = .int .i64 (j : Int) ∧ wr = w) (fun _ i _ => 60 - (intOf i).toNat)
  case atStart => exact ⟨0, 0, by omega, by omega, rfl, by simp, rfl, rfl⟩
  case round =>
    obtain ⟨j, m, hj, hmj, hm, rfl, rfl, rfl⟩ := hrel
    by_cases hlt : j < 60
    · have d1 : decide ((j : Int) < 60) = true := decide_eq_true (by omega)
      have hvc := HW.out.cell (whatL_at S hlt)
      have hsn : ((List.range (j + 1)).filter fun q => pcode S q == 1 || pcode S q == 2 || pcode S q == 4).length = m + (if (pcode S j == 1 || pcode S j == 2 || pcode S j == 4) = true then 1 else 0) := by
        rw [List.range_succ, List.filter_append, List.length_append, ← hm, List.filter_cons, List.filter_nil]
        split <;> rfl
      have hv4 : pcode S j = 0 ∨ pcode S j = 1 ∨ pcode S j = 2 ∨ pcode S j = 3 ∨ pcode S j = 4 := by
        unfold pcode
        repeat' split
        all_goals simp
      obtain ⟨v, hv⟩ : ∃ v, pcode S j = v := ⟨_, rfl⟩
      rw [hv] at hvc hsn hv4
      have HSN := Lib.hid hsn
      clear hsn hm hv
      rcases hv4 with rfl | rfl | rfl | rfl | rfl
      · go_wp2_with fail
        exact ⟨⟨j + 1, m, by omega, by omega, by rw [HSN.out]; rfl, rfl, by go_num, trivial⟩, by simp [intOf]; omega⟩
      · go_wp2_with fail
        exact ⟨⟨j + 1, m + 1, by omega, by omega, by rw [HSN.out]; rfl, by congr 1; omega, by go_num, trivial⟩, by simp [intOf]; omega⟩
      · go_wp2_with fail
        exact ⟨⟨j + 1, m + 1, by omega, by omega, by rw [HSN.out]; rfl, by congr 1; omega, by go_num, trivial⟩, by simp [intOf]; omega⟩
      · go_wp2_with fail
        exact ⟨⟨j + 1, m, by omega, by omega, by rw [HSN.out]; rfl, rfl, by go_num, trivial⟩, by simp [intOf]; omega⟩
      · go_wp2_with fail
        exact ⟨⟨j + 1, m + 1, by omega, by omega, by rw [HSN.out]; rfl, by congr 1; omega, by go_num, trivial⟩, by simp [intOf]; omega⟩
    · obtain rfl : j = 60 := by omega
      have d1 : decide ((60 : Int) < 60) = false := by decide
      have hfr : m = (frees S).length := hm
      clear hm
      subst hfr
      go_wp2_with fail
      first | rfl | exact hQ _ _ _ _ _ _ _ _ _ _ _ _ _ _ _ _ _ _ _ _ _ _ _ _ _ _ _ rfl
end
set_option maxRecDepth 100000 in
set_option maxHeartbeats 4000000 in
theorem spaceApart_law (w : World) (A : Option Addr) (n c : Nat) (rs : List FRc) (h : Recs w w.heap.size A n rs) (hc : Caps w A n c rs) (hok : FROk rs) (hn : n ≤ 4398046511103) (hrl : ∀ r ∈ rs, r.2.length ≤ 35184372088831) (a : Nat) (ha : a < 18446744073709551616) (A3 : Option Addr) (n3 c3 : Nat) (hA3 : SActs w w.heap.size A3 n3) :
    Calls Try.prog 10 #[.slice A n c, .int .u64 (a : Int), .slice A3 n3 c3] w fun e w' => e = .returned (.bool true) ∧ Below w.heap.size w w' := by
  have HREC := Lib.hid h
  have HCAP := Lib.hid hc
  have haw := awake08 (sortsAll 60) (by omega) (by omega) w
  clear h hc
  go_enter Try.func10, Try.ntmps10
  go_wp2_with fail
  refine haw.mono ?_
  rintro e w1 ⟨rfl, hb1⟩
  clear haw
  have hR1 := HREC.out.below hb1
  have hC1 : Caps w1 A n c rs := HCAP.out.keep HREC.out (fun p hp => hb1.cell hp)
  have hz1 := hb1.size
  have hfew := few_any w1 w.heap.size A n c rs hR1 hC1
  clear hR1 hC1
  go_wp2_with fail
  refine hfew.mono ?_
  rintro e w2 ⟨f, rfl, HF, hb2⟩
  clear hfew
  have hbb2 := hb1.trans (hb2.mono hz1)
  have hz2 := hb2.size
  have hR2 := HREC.out.below hbb2
  have hC2 : Caps w2 A n c rs := HCAP.out.keep HREC.out (fun p hp => hbb2.cell hp)
  have hrec := records_any w2 A n c rs (hR2.more (by omega)) hC2 hn hrl
  clear hR2 hC2 hb1 hb2
  go_wp2_with fail
  refine hrec.mono ?_
  rintro e w3 ⟨A1, c1, A2, c2, rfl, hK1, hk1, _, _, hb3⟩
  clear hrec
  have hbb3 := hbb2.trans (hb3.mono (by omega))
  have hz3 := hb3.size
  clear hbb2 hb3
  have hR3 := recs_Rec (c := c1) hK1
  have HR3 := Lib.hid hR3
  have HK1 := Lib.hid hK1
  have hlen : rs.length = n := hR3.1
  clear hR3 hK1
  cases f with
  | false =>
    go_wp2_with fail
    go_ret
    exact ⟨rfl, hbb3⟩
  | true =>
    obtain ⟨hf1, hf2⟩ := HF.out rfl
    have htot := rpAll_len_le hf1 hf2
    have hn10 : n ≤ 10 := by omega
    have hrt := spright_any w3 w3.heap.size A1 n c1 rs HR3.out (Nat.le_refl _) hok (by omega) (fun r hr => by have := hf2 r hr; omega) (by omega) 50
    go_wp2_with fail
    refine hrt.mono ?_
    rintro e w4 ⟨b4, rfl, hbr, hb4⟩
    clear hrt
    have hbb4 := hbb3.trans (hb4.mono (by omega))
    have hz4 := hb4.size
    cases b4 with
    | false =>
      go_wp2_with fail
      go_ret
      exact ⟨rfl, hbb4⟩
    | true =>
      have hrg := hbr.1 rfl
      clear hbr
      have hne : ∀ r ∈ rs, r.2 ≠ [] := fun r hr => by
        obtain ⟨i, hi⟩ := List.getElem?_of_mem hr
        exact (hrg i r hi).1
      have hpl : ∀ r ∈ rs, r.2.length ≤ 1000000000 := fun r hr => by have := hf2 r hr; omega
      have hn1 : Calls Try.prog 40 #[.int .u32 ((50 : Nat) : Int), .int .u32 ((60 : Nat) : Int), .slice A1 n c1, .int .u64 (a : Int)] w4 fun x w' => ∃ p, x = .returned (.tuple #[.pointer (some ⟨p, 0, none⟩), .int .i64 0]) ∧ w4.heap.size ≤ p ∧ SpAt w' 0 (fun k => w4.heap.size ≤ k) p (sNew 50 60 a rs) ∧ Below w4.heap.size w4 w' :=
        snew_any w4 w3.heap.size A1 n c1 rs (HR3.out.below hb4) (fun W' hW' => hcp_Rec HK1.out hne W' (hb4.trans (hW'.mono (Nat.le_refl _)))) hb4.size hok (by omega) hpl (by omega) 50 60 a ha ⟨by omega, by omega, by omega, hrg⟩ 0 _ (Nat.zero_le _) (fun k hk => hk)
      have H4 := Lib.hid hb4
      clear hb4 hbb3
      go_wp2_with fail
      refine hn1.mono ?_
      rintro e w5 ⟨p, rfl, hp, hS, hb5⟩
      clear hn1
      have hz5 := hb5.size
      have hbb5 := hbb4.trans (hb5.mono (by omega))
      have hw35 := H4.out.trans (hb5.mono hz4)
      have HB5 := Lib.hid hbb5
      have HS5 := Lib.hid hS
      have H35 := Lib.hid hw35
      clear hS hbb4 hbb5 hb5 hw35
      go_upto_block 0 with (first | (at_make; refine wpList_make_ints _ rfl _ _ _ rfl Try.underlying74 _ _ rfl rfl ?_; intro w6 hW6 hb6))
      have hz6 := hb6.size
      obtain ⟨g, hg⟩ : ∃ g, w5.heap.size = g := ⟨_, rfl⟩
      have hgz6 : w5.heap.size < w6.heap.size := blk_lt hW6
      have hS6 : SpAt w6 0 (fun k => w4.heap.size ≤ k ∧ k < w5.heap.size) p (sNew 50 60 a rs) := HS5.out.move (fun k hk ho => ⟨hb6.block k hk, ho, hk⟩)
      have hB6 := HB5.out.trans (hb6.mono (by omega))
      have h36 := H35.out.trans (hb6.mono (by omega))
      rw [hg] at hW6 hS6 hgz6 ⊢
      rw [← whatL_nil a] at hW6
      refine sap_1 w6 w3.heap.size g a A1 n c1 rs (HR3.out.below h36) (by omega) (by omega) hW6 hrg hn10 hf2 (fun r hr => (hok r hr).1) (fun W1 t15 t16 t53 t54 t55 t56 t57 t58 t59 t60 t61 t62 t63 t64 t65 t66 t67 t68 t69 t70 t71 t72 t73 t74 t75 t76 t77 t78 t79 t80 t81 t82 t83 t84 t85 t86 t87 t88 t89 t90 t91 t92 t93 t94 t95 t96 t97 t98 t99 t100 t101 t102 hA1 hW1 => ?_)
      have hP0 : ApR w W1 w.heap.size p g (fun k => w4.heap.size ≤ k ∧ k < g) (sNew 50 60 a rs) (sNew 50 60 a rs) := ⟨hS6.move (fun k hk ho => ⟨hA1.block k hk (fun e => by injection e with e; omega), ho⟩), rfl, (by show 50 ≤ 50; omega), rfl, rfl, hW1, hB6.trans (hA1.below (by omega) (by omega))⟩
      have HP0 := Lib.hid hP0
      clear hP0 hA1 hW1 hS6 hB6 h36 hW6 hb6
      go_upto_block 4 with fail
      refine sap_3 W1 w w.heap.size p g (fun k => w4.heap.size ≤ k ∧ k < g) (sNew 50 60 a rs) (sNew 50 60 a rs) A3 n3 c3 hA3 (Nat.le_refl _) (by omega) (fun h => by omega) (fun k hk h => by omega) HP0.out (fun S' W2 t6 t17 t18 t19 t20 t103 t104 t105 t106 t107 t108 t109 t110 t111 t112 t113 t114 t115 t116 t117 t118 t119 t120 t121 t122 t123 t124 t125 t126 t127 t128 t129 t130 t131 t132 t133 t134 t135 t136 t137 t138 t139 t140 t141 t142 t143 t144 t145 t146 t147 t148 t149 t150 t151 t152 t153 t154 t155 t156 t157 t158 t159 t160 t161 t162 t163 t164 t165 t166 t167 t168 t169 t170 t171 t172 t173 t174 t175 t176 t177 t178 t179 t180 t181 t182 t183 t184 t185 t186 t187 t188 t189 t190 hP2 => ?_)
      obtain ⟨hsp, hlim, hfin, hwt, hhd, hwh, hbel⟩ := hP2
      obtain ⟨top, htop⟩ : ∃ top, maxT rs = top := ⟨_, rfl⟩
      have htl : ∀ r ∈ rs, r.1 < top + 1 := fun r hr => by have := maxT_le rs r hr; omega
      have htb : top < 18446744073709551616 := by rw [← htop]; exact maxT_lt (fun r hr => (hok r hr).1)
      rw [htop]
      have hwf := hsp.wf
      have hzW := hbel.size
      have HSP := Lib.hid hsp
      have HWH := Lib.hid hwh
      have HBEL := Lib.hid hbel
      clear hsp hwh hbel htop HP0
      by_cases hmax : top = 18446744073709551615
      · have d1 : ((top : Int) == 18446744073709551615) = true := by simp; omega
        go_wp2_with fail
        go_ret
        exact ⟨rfl, HBEL.out⟩
      · have d1 : ((top : Int) == 18446744073709551615) = false := by simp; omega
        have hmod : ((top : Int) + 1) % 18446744073709551616 = (top : Int) + 1 := by omega
        have hrr := srecs_right (o := a) (t := top + 1) hwf (of_spright hrg) hfin hwt hhd htl (by omega)
        have hul := nodup_len (m := 60) hwf.un (fun q hq => by have := (hwf.u1 q hq).2; have := hwf.e2; omega)
        have hgl := nodup_len (m := 60) hwf.gd (fun q hq => by have := (hwf.g1 q hq).2; have := hwf.e2; omega)
        have hwl : S'.wait.length ≤ 10 := by
          rw [hwt]
          exact Nat.le_trans (List.length_filter_le _ _) (by omega)
        have hrc : Calls Try.prog 51 #[.pointer (some ⟨p, 0, none⟩), .int .u64 ((top : Int) + 1)] W2 fun e w' => ∃ v, e = .returned v ∧ WRow w' W2.heap.size (fun k => W2.heap.size ≤ k) v (sRecs S' (top + 1)) ∧ Below W2.heap.size W2 w' :=
          srecs_any (sortsAll 60) (by omega) W2 p S' 0 _ HSP.out hul hgl (by omega) (fun r hr => by
            rw [hwt] at hr
            have hm := (List.mem_filter.1 hr).1
            exact ⟨(hok r hm).1, by have := hf2 r hm; omega⟩) (top + 1) (by omega)
        have hflen := frees_len hwf hlim hrr.1.2.2 hrr.2
        have hrec60 : (frees S').length ≤ 60 := by
          have := List.length_filter_le (fun q => pcode S' q == 1 || pcode S' q == 2 || pcode S' q == 4) (List.range 60)
          rw [List.length_range] at this
          exact this
        have hnrec : (sRecs S' (top + 1)).length ≤ 12 := by
          unfold sRecs
          rw [List.length_append, List.length_append]
          have := rec1_len S'.us 0
          have := rec1_len S'.gn (top + 1)
          omega
        have hqs : ∀ q ∈ rpAll (sRecs S' (top + 1)), q < 60 ∧ ∃ v, (whatL S')[q]? = some v ∧ (v = 1 ∨ v = 2 ∨ v = 4) := fun q hq => by
          have hm := (hrr.2 q).1 hq
          have he2 := hwf.e2
          have hq60 : q < 60 := by
            rcases hm with h | h | h
            · have := (hwf.u1 q h).2; omega
            · have := (hwf.h1 q h).2; omega
            · have := (hwf.g1 q h).2; omega
          refine ⟨hq60, _, whatL_at S' hq60, ?_⟩
          have := (pcode_free hwf q).2 hm
          simp at this
          omega
        have hright := spright_of hrr.1
        have hrb : ∀ r ∈ sRecs S' (top + 1), r.1 < 18446744073709551616 ∧ (∀ x ∈ r.2, x < 4294967296) ∧ r.2.length ≤ 60 := fun r hr => by
          obtain ⟨k, hk⟩ := List.getElem?_of_mem hr
          have hrow := hrr.1.1 r hr
          have hin : ∀ x ∈ r.2, x ∈ rpAll (sRecs S' (top + 1)) := fun x hx => rpAll_mem.2 ⟨r, hr, hx⟩
          refine ⟨?_, fun x hx => by have := (hqs x (hin x hx)).1; omega, nodup_len (nodup_lt hrow.2.1) (fun x hx => (hqs x (hin x hx)).1)⟩
          unfold sRecs at hr
          rcases List.mem_append.1 hr with hr | hr
          · rcases List.mem_append.1 hr with hr | hr
            · rw [(rec1_row hwf.un hwf.u1 r hr).2]; omega
            · rw [hwt] at hr
              exact (hok r (List.mem_filter.1 hr).1).1
          · rw [(rec1_row hwf.gd hwf.g1 r hr).2]; omega
        have HRB := Lib.hid hrb
        have HQS := Lib.hid hqs
        have HRT := Lib.hid hright
        clear hrb hqs hright hrr
        generalize sRecs S' (top + 1) = R at *
        go_upto_block 6 with (first | (go_at_call 51; refine hrc.mono ?_; rintro e w9 ⟨v9, rfl, hW9, hb9⟩))
        obtain ⟨A9, c9, rfl, hR9⟩ := recs_of_row hW9
        have hW9' : What w9 g (whatL S') := (hb9.block g (blk_lt HWH.out)).trans HWH.out
        have hS9 := HSP.out.below hb9
        have hB9 := HBEL.out.trans (hb9.mono hzW)
        clear hb9 hW9 hrc
        refine sap_4 w9 w9.heap.size g A9 R.length c9 R (whatL S') hR9 (by omega) (by omega) hW9' HQS.out (fun W9 t6 t23 t24 t25 t197 t198 t199 t200 t201 t202 t203 t204 t205 t206 t207 t208 t209 t210 t211 t212 t213 t214 t215 t216 t217 t218 t219 t220 t221 t222 t223 t224 t225 t226 t227 t228 t229 t230 t231 t232 t233 t234 t235 t236 t237 t238 t239 t240 t241 t242 t243 t244 t245 hw9 => ?_)
        subst hw9
        go_upto_block 10 with fail
        refine sap_6 W9 g (rpAll R).length S' (by omega) hW9' (fun W10 t26 t246 t247 t248 t249 t250 t251 t252 t253 t254 t255 t256 t257 t258 t259 t260 t261 t262 t263 t264 t265 t266 t267 t268 t269 t270 hw10 => ?_)
        subst hw10
        rw [hflen, Int.sub_self]
        have hend := send_any hS9
        have hrt := spright_any W10 W10.heap.size A9 R.length c9 R hR9 (Nat.le_refl _) (fun r hr => ⟨(HRB.out r hr).1, (HRB.out r hr).2.1⟩) (by omega) (fun r hr => by have := (HRB.out r hr).2.2; omega) (by omega) S'.fin
        go_wp2_with fail
        refine hend.mono ?_
        rintro e w11 ⟨rfl, rfl⟩
        go_wp2_with fail
        refine hrt.mono ?_
        rintro e w12 ⟨b, rfl, hbt, hb12⟩
        have hbt' : b = true := hbt.2 HRT.out
        subst hbt'
        go_wp2_with fail
        go_ret
        exact ⟨rfl, hB9.trans (hb12.mono hB9.size)⟩
end Go.Proofs.Ythijobbhpbklmaa
