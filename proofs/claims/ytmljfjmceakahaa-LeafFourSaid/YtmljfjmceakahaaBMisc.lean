/- Reader's Err, bytes.Equal, what is taken of known bytes; rows of keys that are owned beside a row of entries. -/
import Derived.Test.YtmljfjmceakahaaBPut
import Derived.Deep.QuietTactic
import Derived.BigQuiet
import Derived.Deep.RegionHeld3
namespace Go.Proofs.Ytmljfjmceakahaa
open Go.RowKit
set_option linter.unusedVariables false
set_option linter.unusedSimpArgs false

theorem err_any (w : World) (g : Nat) (l : List UInt8) (e : Int) (h : IsR w g l e) :
    Calls Try.prog 52 #[.pointer (some ⟨g, 0, none⟩)] w fun r w' => r = .returned (.int .i64 e) ∧ w = w' := by
  obtain ⟨A, n, c, h0, h1⟩ := h.cells
  go_enter Try.func52, Try.ntmps52
  go_wp2
  go_ret
  exact ⟨rfl, rfl⟩
theorem take_nn (l : List UInt8) (n : Nat) (h : n ≤ l.length) : takeL l 0 n = l.take n ∧ takeR l 0 n = l.drop n ∧ takeE l 0 n = 0 := by
  have h' : ¬ l.length < n := by omega
  simp [takeL, takeR, takeE, h']
theorem take_dd (l : List UInt8) (a n b : Nat) (hb : a + n = b) (h : b ≤ l.length) : takeL (l.drop a) 0 n = (l.drop a).take n ∧ takeR (l.drop a) 0 n = l.drop b ∧ takeE (l.drop a) 0 n = 0 := by
  obtain ⟨h1, h2, h3⟩ := take_nn (l.drop a) n (by rw [List.length_drop]; omega)
  exact ⟨h1, by rw [h2, List.drop_drop, hb], h3⟩
theorem take_short (l : List UInt8) (n : Nat) (h : l.length < n) : takeE l 0 n = 10 := by simp [takeE, h, fErr]
theorem bytes_eq (w : World) (B D : Nat) (A : Option Addr) (n c : Nat) (l : List UInt8) (A' : Option Addr) (n' c' : Nat) (l' : List UInt8) (h : Sl w B A n c l) (h' : Sl w D A' n' c' l') :
    Calls Try.prog 54 #[.slice A n c, .slice A' n' c'] w fun e w' => e = .returned (.bool (decide (l = l'))) ∧ w = w' := by
  have q1 := string_of_sl (P := Try.prog) Try.underlying23 Try.underlying5 Try.underlying9 h
  have q2 := string_of_sl (P := Try.prog) Try.underlying23 Try.underlying5 Try.underlying9 h'
  go_enter Try.func54, Try.ntmps54
  go_wp2
  go_ret
  refine ⟨?_, rfl⟩
  simp
  by_cases e : l = l' <;> simp [e]

theorem own_same {w w' : World} {base : Nat} {e : TypeId} {size n : Nat} {v : Value} {xs : List Value} (h : w.ownsRow base e size v n xs) (hk : ∀ (g : Nat) (C : Array Value), w.heap[g]? = some (.cells C e (0, 0)) → w'.heap[g]? = w.heap[g]?) : w'.ownsRow base e size v n xs := by
  obtain ⟨h1, h2⟩ := h
  refine ⟨h1, ?_⟩
  rcases h2 with h2 | ⟨g, cap, cur, hv, hg, hh, r⟩
  · exact Or.inl h2
  · exact Or.inr ⟨g, cap, cur, hv, hg, (hk g _ hh).trans hh, r⟩

/-- Entries as cells, their keys in rows of their own from base on. -/
def EPs (w : World) (base : Nat) (cs : List Value) (es : List (List UInt8 × Nat)) : Prop :=
  cs.length = es.length * 2 ∧ ∀ (i : Nat) (k : List UInt8) (x : Nat), es[i]? = some (k, x) → x < 4294967296 ∧ ∃ A n c, cs[i * 2]? = some (.slice A n c) ∧ cs[i * 2 + 1]? = some (.int .u32 (x : Int)) ∧ w.ownsRow base 5 1 (.slice A n c) n (bv k)
theorem EPs.nil_ (w : World) (base : Nat) : EPs w base [] [] := ⟨rfl, by simp⟩
theorem EPs.same {w w' : World} {base : Nat} {cs : List Value} {es : List (List UInt8 × Nat)} (h : EPs w base cs es) (hk : ∀ (g : Nat) (C : Array Value), w.heap[g]? = some (.cells C 5 (0, 0)) → w'.heap[g]? = w.heap[g]?) : EPs w' base cs es := by
  refine ⟨h.1, fun i k x hi => ?_⟩
  obtain ⟨hx, A, n, c, h1, h2, h3⟩ := h.2 i k x hi
  exact ⟨hx, A, n, c, h1, h2, own_same h3 hk⟩
theorem EPs.below {w w' : World} {base B : Nat} {cs : List Value} {es : List (List UInt8 × Nat)} (h : EPs w base cs es) (hb : Below B w w') (hB : w.heap.size ≤ B) : EPs w' base cs es :=
  h.same fun g C hg => hb.block g (Nat.lt_of_lt_of_le (blk_lt hg) hB)
theorem EPs.at_ {w w' : World} {base g : Nat} {cs : List Value} {es : List (List UInt8 × Nat)} (h : EPs w base cs es) (hA : At g w w') {C : Array Value} {t : TypeId} (hg : w.heap[g]? = some (.cells C t (0, 0))) (ht : t ≠ 5) : EPs w' base cs es :=
  h.same fun g' C' hg' => hA.block g' (blk_lt hg') (fun e => by injection e with e; subst e; rw [hg] at hg'; injection hg' with hg'; injection hg' with _ hg'; exact ht hg')
theorem EPs.grown {w w' : World} {base : Nat} {cs : List Value} {es : List (List UInt8 × Nat)} {row : Option Nat} (h : EPs w base cs es) (hA : w.grownBy w' row) (hr : ∀ (g : Nat) (C : Array Value), row = some g → w.heap[g]? ≠ some (.cells C 5 (0, 0))) : EPs w' base cs es :=
  h.same fun g' C' hg' => hA.block g' (blk_lt hg') (fun e => hr g' C' e.symm hg')
theorem EPs.snoc {w : World} {base : Nat} {cs : List Value} {es : List (List UInt8 × Nat)} (h : EPs w base cs es) {A : Option Addr} {n c : Nat} {k : List UInt8} {x : Nat} (hx : x < 4294967296) (ho : w.ownsRow base 5 1 (.slice A n c) n (bv k)) :
    EPs w base (cs ++ [.slice A n c, .int .u32 (x : Int)]) (es ++ [(k, x)]) := by
  refine ⟨by simp [h.1]; omega, fun i k' x' hi => ?_⟩
  have hl := h.1
  by_cases hlt : i < es.length
  · rw [List.getElem?_append_left hlt] at hi
    obtain ⟨hx', A', n', c', h1, h2, h3⟩ := h.2 i k' x' hi
    exact ⟨hx', A', n', c', by rw [List.getElem?_append_left (by omega)]; exact h1, by rw [List.getElem?_append_left (by omega)]; exact h2, h3⟩
  · have hlen := (List.getElem?_eq_some_iff.1 hi).1
    simp at hlen
    obtain rfl : i = es.length := by omega
    simp at hi
    obtain ⟨rfl, rfl⟩ := hi
    exact ⟨hx, A, n, c, by rw [← hl]; simp, by rw [← hl, List.getElem?_append_right (by omega)]; simp, ho⟩
theorem EPs.ents {w : World} {base b2 : Nat} {e : TypeId} {A : Option Addr} {n c : Nat} {cs : List Value} {es : List (List UInt8 × Nat)} (h : EPs w base cs es) (hr : w.ownsRow b2 e 2 (.slice A n c) n cs) : Ents w w.heap.size A n es := by
  have hR := Reads.of_own hr
  have hl := h.1
  have hl2 := hR.1
  refine ⟨by omega, fun i k x hi => ?_⟩
  have hlt := (List.getElem?_eq_some_iff.1 hi).1
  obtain ⟨hx, Ak, nk, ck, h1, h2, h3⟩ := h.2 i k x hi
  obtain ⟨ad, rfl, hb, hc⟩ := hR.2 (by omega)
  exact ⟨hx, ad, Ak, nk, ck, rfl, hb, hc _ _ h1, by rw [add_of_add]; exact hc _ _ h2, Sl.of_own h3⟩

end Go.Proofs.Ytmljfjmceakahaa
