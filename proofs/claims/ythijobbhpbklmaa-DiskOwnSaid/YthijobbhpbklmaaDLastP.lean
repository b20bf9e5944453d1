/- DiskLast: plain: what was written last. -/
import Derived.Test.YthijobbhpbklmaaDAwake
namespace Go.Proofs.Ythijobbhpbklmaa
set_option linter.unusedVariables false
set_option linter.unusedSimpArgs false

theorem laid_look (l : List (Nat × List UInt8)) (i : Nat) : ∀ g : List (List UInt8), i < g.length → (∀ x ∈ l, x.1 < g.length) → (laid g l).getD i [] = lookIn l i (g.getD i []) := by
  induction l with
  | nil => intro g _ _; rfl
  | cons x l ih =>
    intro g hi hl
    rw [laid, ih (g.set x.1 x.2) (by simpa using hi) (fun y hy => by simpa using hl y (List.mem_cons_of_mem _ hy))]
    show _ = lookIn l i (if x.1 = i then x.2 else g.getD i [])
    congr 1
    by_cases h : x.1 = i
    · subst h
      rw [if_pos rfl, List.getD, List.getElem?_set_self hi]
      rfl
    · rw [if_neg h, List.getD, List.getElem?_set_ne h]
      rfl
/-- A disk of four pages; each looks like one byte. -/
structure LSt (D : Dk) (j C : Nat) (ls : List UInt8) : Prop where
  sz : D.size = 512
  lm : D.limit = 9
  g : D.good.length = 4
  lo : D.loose.length ≤ j
  ca : D.calls ≤ C
  fa : D.fails = -1
  lk : ∀ i, i < 4 → D.look i = List.replicate 512 (ls.getD i 0)
theorem LSt.count {D : Dk} {j C : Nat} {ls : List UInt8} (h : LSt D j C ls) : LSt D.count j (C + 1) ls :=
  ⟨h.sz, h.lm, h.g, h.lo, by show D.calls + 1 ≤ _; have := h.ca; omega, by show (if D.fails = -1 then -1 else D.fails - 1) = -1; rw [h.fa]; rfl, h.lk⟩
theorem LSt.more {D : Dk} {j C C' : Nat} {ls : List UInt8} (h : LSt D j C ls) (hC : C ≤ C') : LSt D j C' ls := ⟨h.sz, h.lm, h.g, h.lo, Nat.le_trans h.ca hC, h.fa, h.lk⟩
theorem LSt.sync {D : Dk} {j C : Nat} {ls : List UInt8} (h : LSt D j C ls) (hok : D.OK) : LSt D.count.synced j (C + 1) ls := by
  have hc := h.count
  refine ⟨hc.sz, hc.lm, (laid_length _ _).trans hc.g, Nat.zero_le _, hc.ca, hc.fa, fun i hi => ?_⟩
  rw [← h.lk i hi]
  show lookIn [] i ((laid D.good D.loose).getD i []) = _
  rw [laid_look D.loose i D.good (by rw [h.g]; exact hi) (fun x hx => (hok.o1 x hx).1)]
  rfl
theorem LSt.write {D : Dk} {j C k : Nat} {ls : List UInt8} (h : LSt D j C ls) (hk : k < 4) (hl : ls.length = 4) (x : UInt8) : LSt (D.count.written k (List.replicate 512 x)) (j + 1) (C + 1) (ls.set k x) := by
  have hc := h.count
  refine ⟨hc.sz, hc.lm, hc.g, by show (D.loose ++ [(k, _)]).length ≤ _; rw [List.length_append, List.length_singleton]; have := h.lo; omega, hc.ca, hc.fa, fun i hi => ?_⟩
  show lookIn (D.loose ++ [(k, _)]) i (D.good.getD i []) = _
  rw [lookIn_snoc]
  by_cases e : k = i
  · subst e
    rw [if_pos rfl, show (ls.set k x).getD k 0 = x from by simp [List.getD, List.getElem?_set_self (show k < ls.length by omega)]]
  · rw [if_neg e, show (ls.set k x).getD i 0 = ls.getD i 0 from by simp [List.getD, List.getElem?_set_ne e]]
    exact h.lk i hi
theorem lst_start : LSt ((dNew 512 9).count.grown 4) 0 1 [0, 0, 0, 0] := by
  refine ⟨rfl, rfl, rfl, Nat.le_refl _, Nat.le_refl _, rfl, fun i hi => ?_⟩
  rcases (by omega : i = 0 ∨ i = 1 ∨ i = 2 ∨ i = 3) with rfl | rfl | rfl | rfl <;> exact (rfl : zeros 512 = List.replicate 512 0)
end Go.Proofs.Ythijobbhpbklmaa
