/- DActs -/
import Derived.Test.YthijobbhpbklmaaDkPl1
import Derived.Deep.Slices
import Derived.Deep.Fields
import Derived.ChangeSame
import Derived.ChangeArms
import Derived.ChangeSlices
import Derived.OpenShut
set_option linter.unusedVariables false
set_option linter.unusedSimpArgs false
/- A script of layer 3 that came in: a slice of structs of one-cell fields, opened to cells. -/
namespace Go.Proofs.Ythijobbhpbklmaa
open Go.RowKit Go.ChangeShapes Go.WideShapes Go.Deep
def DActs (w : World) (B : Nat) (A : Option Addr) (n : Nat) : Prop := ∀ i, i < n → ∃ (ad : Addr) (k x y : Int) (A1 : Option Addr) (n1 c1 : Nat) (l : List UInt8), A = some ad ∧ ad.block < B ∧
  w.cell? (ad.add (i * 4)) = some (.int .i64 k) ∧ (-9223372036854775808 ≤ k ∧ k ≤ 9223372036854775807) ∧ w.cell? ⟨(ad.add (i * 4)).block, (ad.add (i * 4)).off + 1, none⟩ = some (.int .i64 x) ∧ (-9223372036854775808 ≤ x ∧ x ≤ 9223372036854775807) ∧
  w.cell? ⟨(ad.add (i * 4)).block, (ad.add (i * 4)).off + 2, none⟩ = some (.int .i64 y) ∧ (-9223372036854775808 ≤ y ∧ y ≤ 9223372036854775807) ∧ w.cell? ⟨(ad.add (i * 4)).block, (ad.add (i * 4)).off + 3, none⟩ = some (.slice A1 n1 c1) ∧ Sl w B A1 n1 c1 l
theorem DActs.below {w w' : World} {B : Nat} {A : Option Addr} {n : Nat} (h : DActs w B A n) (hb : Below B w w') : DActs w' B A n := fun i hi => by
  obtain ⟨ad, k, x, y, A1, n1, c1, l, rfl, hB, h0, b0, h1, b1, h2, b2, h3, hs⟩ := h i hi
  have hB' : (ad.add (i * 4)).block < B := by rw [block_of_add]; exact hB
  exact ⟨ad, k, x, y, A1, n1, c1, l, rfl, hB, (hb.cell (p := ad.add (i * 4)) hB').trans h0, b0, (hb.cell (p := ⟨(ad.add (i * 4)).block, (ad.add (i * 4)).off + 1, none⟩) hB').trans h1, b1, (hb.cell (p := ⟨(ad.add (i * 4)).block, (ad.add (i * 4)).off + 2, none⟩) hB').trans h2, b2, (hb.cell (p := ⟨(ad.add (i * 4)).block, (ad.add (i * 4)).off + 3, none⟩) hB').trans h3, hs.below hb⟩
set_option maxRecDepth 100000 in
theorem dacts_of_trod {H : Type} {enc : TypeId × Value → H} {w : World} {fuel : Nat} {cs : List Value} {x : DataW H × List MemPlace}
    (h : DataW.trod enc Try.prog w 0 (fun _ => true) true fuel 43 cs = some x) :
    ∃ (A : Option Addr) (n c : Nat), cs = [.slice A n c] ∧ n ≤ c ∧ c ≤ maxLen ∧ DActs w w.heap.size A n := by
  have hC : Try.prog.cellsOf 51 = 4 := by kernel_rfl
  rcases open_slice Try.underlying43 h with ⟨hcs, _⟩ | ⟨a, len, cap, m, n, D, Pl, hcs, hb, hl, hm, hmm, hx, hi⟩
  · exact ⟨none, 0, 0, hcs, Nat.le_refl _, Nat.zero_le _, fun i hi => absurd hi (Nat.not_lt_zero _)⟩
  · refine ⟨some a, len, cap, hcs, hl, hm, fun i hlt => ?_⟩
    obtain ⟨cs', hc, ht'⟩ := hi i (by rw [hmm]; simp; omega)
    rw [hC] at hc
    obtain ⟨ys, n', hn', hy, hlen, hyl, hf⟩ := DataW.trod_struct Try.underlying51 ht'
    rw [hC] at hlen
    obtain ⟨_, hcl, hat⟩ := World.cells?_some hc
    match cs', hlen, hat, hf with
    | [c0, c1, c2, c3], _, hat, hf =>
      have g0 : DataW.trod enc Try.prog w 0 (fun _ => true) true n' 3 (([c0, c1, c2, c3].drop 0).take (Try.prog.cellsOf 3)) = ys[0]? := hf 0 _ rfl
      have g1 : DataW.trod enc Try.prog w 0 (fun _ => true) true n' 3 (([c0, c1, c2, c3].drop 1).take (Try.prog.cellsOf 3)) = ys[1]? := hf 1 _ rfl
      have g2 : DataW.trod enc Try.prog w 0 (fun _ => true) true n' 3 (([c0, c1, c2, c3].drop 2).take (Try.prog.cellsOf 3)) = ys[2]? := hf 2 _ rfl
      have g3 : DataW.trod enc Try.prog w 0 (fun _ => true) true n' 30 (([c0, c1, c2, c3].drop 3).take (Try.prog.cellsOf 30)) = ys[3]? := hf 3 _ rfl
      have q0 := hat 0 (by decide)
      have q1 := hat 1 (by decide)
      have q2 := hat 2 (by decide)
      have q3 := hat 3 (by decide)
      have s0 : ys[0]? = some (ys[0]'(by rw [hyl]; decide)) := List.getElem?_eq_getElem _
      have s1 : ys[1]? = some (ys[1]'(by rw [hyl]; decide)) := List.getElem?_eq_getElem _
      have s2 : ys[2]? = some (ys[2]'(by rw [hyl]; decide)) := List.getElem?_eq_getElem _
      have s3 : ys[3]? = some (ys[3]'(by rw [hyl]; decide)) := List.getElem?_eq_getElem _
      have k0 : Try.prog.cellsOf 5 = 1 := by kernel_rfl
      have k2 : Try.prog.cellsOf 3 = 1 := by kernel_rfl
      have k3 : Try.prog.cellsOf 30 = 1 := by kernel_rfl
      rw [s0] at g0
      rw [s1] at g1
      rw [s2] at g2
      rw [s3] at g3
      rw [k2] at g0
      rw [k2] at g1
      rw [k2] at g2
      rw [k3] at g3
      simp only [List.drop_zero, List.drop_succ_cons, List.take_succ_cons, List.take_zero] at g0 g1 g2 g3
      obtain ⟨v0, e0, _, w0⟩ := DataW.trod_int Try.underlying3 g0
      obtain ⟨v1, e1, _, w1⟩ := DataW.trod_int Try.underlying3 g1
      obtain ⟨v2, e2, _, w2⟩ := DataW.trod_int Try.underlying3 g2
      obtain ⟨A1, n1, c1', e3, l, hl3⟩ : ∃ (A1 : Option Addr) (n1 c1 : Nat), c3 = .slice A1 n1 c1 ∧ ∃ l, Sl w w.heap.size A1 n1 c1 l := by
        rcases open_ints Try.underlying30 Try.underlying5 k0 g3 with ⟨hc3, _⟩ | ⟨y, l, c, zs, hc3, _, hl, hm, hz, _, hcell, hwz⟩
        · exact ⟨none, 0, 0, by simpa using hc3, [], Sl.nil_ _ _⟩
        · obtain ⟨L, hL⟩ := sl_of_row (w := w) (a := some y) (len := l) (cap := c) (zs := zs) (.inr ⟨_, rfl, hl, hm, by simpa using hz, hcell, hwz⟩)
          exact ⟨some y, l, c, by simpa using hc3, L, hL⟩
      have e0' : c0 = _ := List.head_eq_of_cons_eq e0
      have e1' : c1 = _ := List.head_eq_of_cons_eq e1
      have e2' : c2 = _ := List.head_eq_of_cons_eq e2
      rw [e0'] at q0
      rw [e1'] at q1
      rw [e2'] at q2
      rw [e3] at q3
      have q0' : w.cell? (a.add (i * 4)) = some (.int .i64 v0) := by rw [Addr.add_zero'] at q0; exact q0
      have b0 := bounds_i64 w0
      have b1 := bounds_i64 w1
      have b2 := bounds_i64 w2
      exact ⟨a, v0, v1, v2, A1, n1, c1', l, rfl, (by have := World.block_lt_of_cell? w _ q0'; rwa [block_of_add] at this), q0', ⟨b0.1, b0.2⟩, q1, ⟨b1.1, b1.2⟩, q2, ⟨b2.1, b2.2⟩, q3, hl3⟩
end Go.Proofs.Ythijobbhpbklmaa
