/- Raw entries of layer 4 that came in, opened to cells. -/
import Derived.Test.YtmljfjmceakahaaLeaf
import Derived.Deep.Slices
import Derived.Deep.Fields
import Derived.ChangeSame
import Derived.ChangeArms
import Derived.ChangeSlices
import Derived.OpenShut
namespace Go.Proofs.Ytmljfjmceakahaa
open Go.RowKit Go.ChangeShapes Go.WideShapes Go.Deep
set_option linter.unusedVariables false
set_option linter.unusedSimpArgs false

set_option maxRecDepth 10000 in
theorem lraws_of_trod {H : Type} {enc : TypeId × Value → H} {w : World} {fuel : Nat} {cs : List Value} {x : DataW H × List MemPlace}
    (h : DataW.trod enc Try.prog w 0 (fun _ => true) true fuel 56 cs = some x) :
    ∃ (A : Option Addr) (n c : Nat), cs = [.slice A n c] ∧ n ≤ c ∧ c ≤ maxLen ∧ ∃ es, LEnts w w.heap.size A n es := by
  have hC : Try.prog.cellsOf 106 = 4 := by kernel_rfl
  have k0 : Try.prog.cellsOf 23 = 1 := by kernel_rfl
  have k1 : Try.prog.cellsOf 43 = 1 := by kernel_rfl
  have k2 : Try.prog.cellsOf 5 = 1 := by kernel_rfl
  have k3 : Try.prog.cellsOf 3 = 1 := by kernel_rfl
  have opn : ∀ {n' : Nat} {c0 : Value} {y : DataW H × List MemPlace}, DataW.trod enc Try.prog w 0 (fun _ => true) true n' 23 [c0] = some y → ∃ (A1 : Option Addr) (n1 c1 : Nat), c0 = .slice A1 n1 c1 ∧ ∃ l, Sl w w.heap.size A1 n1 c1 l := by
    intro n' c0 y g0
    rcases open_ints Try.underlying23 Try.underlying5 k2 g0 with ⟨hc3, _⟩ | ⟨y, l, c, zs, hc3, _, hl, hm, hz, _, hcell, hwz⟩
    · exact ⟨none, 0, 0, by simpa using hc3, [], Sl.nil_ _ _⟩
    · obtain ⟨L, hL⟩ := sl_of_row (w := w) (a := some y) (len := l) (cap := c) (zs := zs) (.inr ⟨_, rfl, hl, hm, by simpa using hz, hcell, hwz⟩)
      exact ⟨some y, l, c, by simpa using hc3, L, hL⟩
  rcases open_slice Try.underlying56 h with ⟨hcs, _⟩ | ⟨a, len, cap, m, n, D, Pl, hcs, hb, hl, hm, hmm, hx, hi⟩
  · exact ⟨none, 0, 0, hcs, Nat.le_refl _, Nat.zero_le _, [], rfl, by simp⟩
  · refine ⟨some a, len, cap, hcs, hl, hm, ?_⟩
    have key : ∀ i, i < len → ∃ (e : LE) (Ak : Option Addr) (nk ck : Nat) (Av : Option Addr) (nv cv : Nat), e.ok ∧ LAt w w.heap.size (a.add (i * 4)) e Ak nk ck Av nv cv := by
      intro i hlt
      obtain ⟨cs', hc, ht'⟩ := hi i (by rw [hmm]; simp; omega)
      rw [hC] at hc
      obtain ⟨ys, n', hn', hy, hlen, hyl, hf⟩ := DataW.trod_struct Try.underlying106 ht'
      rw [hC] at hlen
      obtain ⟨_, hcl, hat⟩ := World.cells?_some hc
      match cs', hlen, hat, hf with
      | [c0, c1, c2, c3], _, hat, hf =>
        have g0 : DataW.trod enc Try.prog w 0 (fun _ => true) true n' 23 (([c0, c1, c2, c3].drop 0).take (Try.prog.cellsOf 23)) = ys[0]? := hf 0 _ rfl
        have g1 : DataW.trod enc Try.prog w 0 (fun _ => true) true n' 23 (([c0, c1, c2, c3].drop 1).take (Try.prog.cellsOf 23)) = ys[1]? := hf 1 _ rfl
        have g2 : DataW.trod enc Try.prog w 0 (fun _ => true) true n' 3 (([c0, c1, c2, c3].drop 2).take (Try.prog.cellsOf 3)) = ys[2]? := hf 2 _ rfl
        have g3 : DataW.trod enc Try.prog w 0 (fun _ => true) true n' 43 (([c0, c1, c2, c3].drop 3).take (Try.prog.cellsOf 43)) = ys[3]? := hf 3 _ rfl
        have q0 := hat 0 (by decide)
        have q1 := hat 1 (by decide)
        have q2 := hat 2 (by decide)
        have q3 := hat 3 (by decide)
        have s0 : ys[0]? = some (ys[0]'(by rw [hyl]; decide)) := List.getElem?_eq_getElem _
        have s1 : ys[1]? = some (ys[1]'(by rw [hyl]; decide)) := List.getElem?_eq_getElem _
        have s2 : ys[2]? = some (ys[2]'(by rw [hyl]; decide)) := List.getElem?_eq_getElem _
        have s3 : ys[3]? = some (ys[3]'(by rw [hyl]; decide)) := List.getElem?_eq_getElem _
        rw [s0] at g0
        rw [s1] at g1
        rw [s2] at g2
        rw [s3] at g3
        rw [k0] at g0 g1
        rw [k3] at g2
        rw [k1] at g3
        simp only [List.drop_zero, List.drop_succ_cons, List.take_succ_cons, List.take_zero] at g0 g1 g2 g3
        obtain ⟨A0, n0, c0', e0, l0, hl0⟩ := opn g0
        obtain ⟨A1, n1, c1', e1, l1, hl1⟩ := opn g1
        obtain ⟨v2, e2, _, w2⟩ := DataW.trod_int Try.underlying3 g2
        obtain ⟨v3, e3, _, w3⟩ := DataW.trod_int Try.underlying43 g3
        have e2' : c2 = _ := List.head_eq_of_cons_eq e2
        have e3' : c3 = _ := List.head_eq_of_cons_eq e3
        rw [e0] at q0
        rw [e1] at q1
        rw [e2'] at q2
        rw [e3'] at q3
        have q0' : w.cell? (a.add (i * 4)) = some (.slice A0 n0 c0') := by rw [Addr.add_zero'] at q0; exact q0
        have b2 := bounds_i64 w2
        have b3 := bounds_u32 w3
        obtain ⟨x3, rfl⟩ := Int.eq_ofNat_of_zero_le b3.1
        have hbl := World.block_lt_of_cell? w _ q0'
        exact ⟨⟨l0, l1, v2, x3⟩, A0, n0, c0', A1, n1, c1', ⟨by show x3 < 4294967296; omega, b2.1, b2.2⟩, hbl, q0', q1, q2, q3, hl0, hl1⟩
    clear hi hx hb
    have : ∀ n, n ≤ len → ∃ es : List LE, LEnts w w.heap.size (some a) n es := by
      intro n
      induction n with
      | zero => intro _; exact ⟨[], rfl, by simp⟩
      | succ n ih =>
        intro hn
        obtain ⟨es, h1, h2⟩ := ih (by omega)
        obtain ⟨e, Ak, nk, ck, Av, nv, cv, ho, hl⟩ := key n (by omega)
        refine ⟨es ++ [e], by simp [h1], fun i e' hi => ?_⟩
        by_cases hlt : i < es.length
        · rw [List.getElem?_append_left hlt] at hi
          exact h2 i e' hi
        · have hlen := (List.getElem?_eq_some_iff.1 hi).1
          simp at hlen
          obtain rfl : i = es.length := by omega
          simp at hi
          subst hi
          subst h1
          exact ⟨ho, a, Ak, nk, ck, Av, nv, cv, rfl, hl⟩
    exact this len (Nat.le_refl _)

end Go.Proofs.Ytmljfjmceakahaa
