/- Raw entries that came in: a slice of structs of a slice of bytes and a number, opened to cells. -/
import Derived.Test.YtmljfjmceakahaaBranch
import Derived.Deep.Slices
import Derived.Deep.Fields
import Derived.ChangeSame
import Derived.ChangeArms
import Derived.ChangeSlices
import Derived.OpenShut
namespace Go.Proofs.Ytmljfjmceakahaa
open Go.RowKit Go.ChangeShapes Go.WideShapes Go.Deep
set_option linter.unusedVariables false
set_option linter.unusedSimpArgs false

set_option maxRecDepth 10000 in
theorem raws_of_trod {H : Type} {enc : TypeId × Value → H} {w : World} {fuel : Nat} {cs : List Value} {x : DataW H × List MemPlace}
    (h : DataW.trod enc Try.prog w 0 (fun _ => true) true fuel 22 cs = some x) :
    ∃ (A : Option Addr) (n c : Nat), cs = [.slice A n c] ∧ n ≤ c ∧ c ≤ maxLen ∧ ∃ es, Ents w w.heap.size A n es := by
  have hC : Try.prog.cellsOf 88 = 2 := by kernel_rfl
  rcases open_slice Try.underlying22 h with ⟨hcs, _⟩ | ⟨a, len, cap, m, n, D, Pl, hcs, hb, hl, hm, hmm, hx, hi⟩
  · exact ⟨none, 0, 0, hcs, Nat.le_refl _, Nat.zero_le _, [], rfl, by simp⟩
  · refine ⟨some a, len, cap, hcs, hl, hm, ?_⟩
    have key : ∀ i, i < len → ∃ (k : List UInt8) (x : Nat) (Ak : Option Addr) (nk ck : Nat), x < 4294967296 ∧ a.block < w.heap.size ∧ w.cell? (a.add (i * 2)) = some (.slice Ak nk ck) ∧ w.cell? ((a.add (i * 2)).add 1) = some (.int .u32 (x : Int)) ∧ Sl w w.heap.size Ak nk ck k := by
      intro i hlt
      obtain ⟨cs', hc, ht'⟩ := hi i (by rw [hmm]; simp; omega)
      rw [hC] at hc
      obtain ⟨ys, n', hn', hy, hlen, hyl, hf⟩ := DataW.trod_struct Try.underlying88 ht'
      rw [hC] at hlen
      obtain ⟨_, hcl, hat⟩ := World.cells?_some hc
      match cs', hlen, hat, hf with
      | [c0, c1], _, hat, hf =>
        have g0 : DataW.trod enc Try.prog w 0 (fun _ => true) true n' 23 (([c0, c1].drop 0).take (Try.prog.cellsOf 23)) = ys[0]? := hf 0 _ rfl
        have g1 : DataW.trod enc Try.prog w 0 (fun _ => true) true n' 43 (([c0, c1].drop 1).take (Try.prog.cellsOf 43)) = ys[1]? := hf 1 _ rfl
        have q0 := hat 0 (by decide)
        have q1 := hat 1 (by decide)
        have s0 : ys[0]? = some (ys[0]'(by rw [hyl]; decide)) := List.getElem?_eq_getElem _
        have s1 : ys[1]? = some (ys[1]'(by rw [hyl]; decide)) := List.getElem?_eq_getElem _
        have k0 : Try.prog.cellsOf 23 = 1 := by kernel_rfl
        have k1 : Try.prog.cellsOf 43 = 1 := by kernel_rfl
        have k2 : Try.prog.cellsOf 5 = 1 := by kernel_rfl
        rw [s0] at g0
        rw [s1] at g1
        rw [k0] at g0
        rw [k1] at g1
        simp only [List.drop_zero, List.drop_succ_cons, List.take_succ_cons, List.take_zero] at g0 g1
        obtain ⟨v1, e1, _, w1⟩ := DataW.trod_int Try.underlying43 g1
        obtain ⟨A1, n1, c1', e3, l, hl3⟩ : ∃ (A1 : Option Addr) (n1 c1 : Nat), c0 = .slice A1 n1 c1 ∧ ∃ l, Sl w w.heap.size A1 n1 c1 l := by
          rcases open_ints Try.underlying23 Try.underlying5 k2 g0 with ⟨hc3, _⟩ | ⟨y, l, c, zs, hc3, _, hl, hm, hz, _, hcell, hwz⟩
          · exact ⟨none, 0, 0, by simpa using hc3, [], Sl.nil_ _ _⟩
          · obtain ⟨L, hL⟩ := sl_of_row (w := w) (a := some y) (len := l) (cap := c) (zs := zs) (.inr ⟨_, rfl, hl, hm, by simpa using hz, hcell, hwz⟩)
            exact ⟨some y, l, c, by simpa using hc3, L, hL⟩
        have e1' : c1 = _ := List.head_eq_of_cons_eq e1
        rw [e1'] at q1
        rw [e3] at q0
        have q0' : w.cell? (a.add (i * 2)) = some (.slice A1 n1 c1') := by rw [Addr.add_zero'] at q0; exact q0
        have b1 := bounds_u32 w1
        obtain ⟨x1, rfl⟩ := Int.eq_ofNat_of_zero_le b1.1
        have hbl := World.block_lt_of_cell? w _ q0'
        rw [block_of_add] at hbl
        exact ⟨l, x1, A1, n1, c1', by omega, hbl, q0', q1, hl3⟩
    clear hi hx hb
    have : ∀ n, n ≤ len → ∃ es : List (List UInt8 × Nat), Ents w w.heap.size (some a) n es := by
      intro n
      induction n with
      | zero => intro _; exact ⟨[], rfl, by simp⟩
      | succ n ih =>
        intro hn
        obtain ⟨es, h1, h2⟩ := ih (by omega)
        obtain ⟨k, x, Ak, nk, ck, hx, hb, c0, c1, hs⟩ := key n (by omega)
        refine ⟨es ++ [(k, x)], by simp [h1], fun i k' x' hi => ?_⟩
        by_cases hlt : i < es.length
        · rw [List.getElem?_append_left hlt] at hi
          exact h2 i k' x' hi
        · have hlen := (List.getElem?_eq_some_iff.1 hi).1
          simp at hlen
          obtain rfl : i = es.length := by omega
          simp at hi
          obtain ⟨rfl, rfl⟩ := hi
          subst h1
          exact ⟨hx, a, Ak, nk, ck, rfl, hb, c0, c1, hs⟩
    exact this len (Nat.le_refl _)

end Go.Proofs.Ytmljfjmceakahaa
