/- Layer 4's helper entries: what its rows hold. -/
import Derived.Test.YtmljfjmceakahaaLRefP
import Derived.Test.YtmljfjmceakahaaLFew
namespace Go.Proofs.Ytmljfjmceakahaa
open Go.RowKit
set_option linter.unusedVariables false
set_option linter.unusedSimpArgs false

theorem info_le : (Try.prog.info? 73).map (fun i => (i.zero, i.size, i.bytes)) = some (some (.agg #[.string ⟨#[]⟩, .string ⟨#[]⟩, .int .i64 0, .int .u32 0]), 4, 48) := by kernel_rfl

def lRow (e : LE) : List Value := [.string (st e.key), .string (st e.val), .int .i64 e.long, .int .u32 (e.first : Int)]
/-- The model's entries as cells. -/
def LCs (es : List LE) : List Value := es.flatMap lRow
theorem LCs_length (es : List LE) : (LCs es).length = es.length * 4 := by
  induction es with
  | nil => rfl
  | cons e es ih => simp [LCs, lRow] at ih ⊢; omega
theorem LCs_append (a b : List LE) : LCs (a ++ b) = LCs a ++ LCs b := by simp [LCs]
theorem LCs_snoc (a : List LE) (e : LE) : LCs (a ++ [e]) = LCs a ++ lRow e := by simp [LCs]
theorem lRow_one (e : LE) : ∀ u ∈ lRow e, u.oneCell' = true := by
  intro u hu
  simp [lRow] at hu
  rcases hu with rfl | rfl | rfl | rfl <;> rfl
theorem LCs_at {es : List LE} {i : Nat} {e : LE} (h : es[i]? = some e) : (LCs es)[i * 4]? = some (.string (st e.key)) ∧ (LCs es)[i * 4 + 1]? = some (.string (st e.val)) ∧ (LCs es)[i * 4 + 2]? = some (.int .i64 e.long) ∧ (LCs es)[i * 4 + 3]? = some (.int .u32 (e.first : Int)) := by
  induction es generalizing i with
  | nil => simp at h
  | cons e' es ih =>
    cases i with
    | zero => simp at h; subst h; exact ⟨rfl, rfl, rfl, rfl⟩
    | succ i =>
      have := ih (i := i) (by simpa using h)
      rw [show (i + 1) * 4 = i * 4 + 1 + 1 + 1 + 1 by omega]
      simpa [LCs, lRow] using this
theorem rlents_own {w : World} {base : Nat} {e : TypeId} {A : Option Addr} {n c : Nat} {es : List LE} (h : w.ownsRow base e 4 (.slice A n c) n (LCs es)) (hok : LOkL es) : RLEnts w w.heap.size A n es := by
  have hR := Reads.of_own h
  have hl := hR.1
  rw [LCs_length] at hl
  refine ⟨by omega, fun i e hi => ?_⟩
  have hlt := (List.getElem?_eq_some_iff.1 hi).1
  obtain ⟨ad, rfl, hb, hc⟩ := hR.2 (by omega)
  obtain ⟨h1, h2, h3, h4⟩ := LCs_at hi
  exact ⟨hok _ (List.mem_of_getElem? hi), ad, rfl, by rw [block_of_add]; exact hb, hc _ _ h1, by rw [add_of_add]; exact hc _ _ h2, by rw [add_of_add]; exact hc _ _ h3, by rw [add_of_add]; exact hc _ _ h4⟩

/-- Entries as cells, their keys and values at the heads of blocks of bytes. -/
def LPk (w : World) (cs : List Value) (es : List LE) : Prop :=
  cs.length = es.length * 4 ∧ ∀ (i : Nat) (e : LE), es[i]? = some e → e.ok ∧ ∃ Ak nk ck Av nv cv, cs[i * 4]? = some (.slice Ak nk ck) ∧ cs[i * 4 + 1]? = some (.slice Av nv cv) ∧ cs[i * 4 + 2]? = some (.int .i64 e.long) ∧ cs[i * 4 + 3]? = some (.int .u32 (e.first : Int)) ∧ Kb w Ak nk ck e.key ∧ Kb w Av nv cv e.val
theorem LPk.nil_ (w : World) : LPk w [] [] := ⟨rfl, by simp⟩
theorem LPk.same {w w' : World} {cs : List Value} {es : List LE} (h : LPk w cs es) (hk : ∀ (g : Nat) (C : Array Value) (fr : Nat × Nat), w.heap[g]? = some (.cells C 5 fr) → w'.heap[g]? = w.heap[g]?) : LPk w' cs es := by
  refine ⟨h.1, fun i e hi => ?_⟩
  obtain ⟨ho, Ak, nk, ck, Av, nv, cv, h1, h2, h3, h4, h5, h6⟩ := h.2 i e hi
  exact ⟨ho, Ak, nk, ck, Av, nv, cv, h1, h2, h3, h4, h5.same hk, h6.same hk⟩
theorem LPk.below {w w' : World} {B : Nat} {cs : List Value} {es : List LE} (h : LPk w cs es) (hb : Below B w w') (hB : w.heap.size ≤ B) : LPk w' cs es :=
  h.same fun g C fr hg => hb.block g (Nat.lt_of_lt_of_le (blk_lt hg) hB)
theorem Kb.below {w w' : World} {B : Nat} {A : Option Addr} {n c : Nat} {k : List UInt8} (h : Kb w A n c k) (hb : Below B w w') (hB : w.heap.size ≤ B) : Kb w' A n c k :=
  h.same fun g C fr hg => hb.block g (Nat.lt_of_lt_of_le (blk_lt hg) hB)
theorem LPk.snoc {w : World} {cs : List Value} {es : List LE} (h : LPk w cs es) {e : LE} (ho : e.ok) {Ak : Option Addr} {nk ck : Nat} {Av : Option Addr} {nv cv : Nat} (hk : Kb w Ak nk ck e.key) (hv : Kb w Av nv cv e.val) :
    LPk w (cs ++ [.slice Ak nk ck, .slice Av nv cv, .int .i64 e.long, .int .u32 (e.first : Int)]) (es ++ [e]) := by
  refine ⟨by simp [h.1]; omega, fun i e' hi => ?_⟩
  have hl := h.1
  by_cases hlt : i < es.length
  · rw [List.getElem?_append_left hlt] at hi
    obtain ⟨ho', A', n', c', A'', n'', c'', h1, h2, h3, h4, h5, h6⟩ := h.2 i e' hi
    exact ⟨ho', A', n', c', A'', n'', c'', by rw [List.getElem?_append_left (by omega)]; exact h1, by rw [List.getElem?_append_left (by omega)]; exact h2, by rw [List.getElem?_append_left (by omega)]; exact h3, by rw [List.getElem?_append_left (by omega)]; exact h4, h5, h6⟩
  · have hlen := (List.getElem?_eq_some_iff.1 hi).1
    simp at hlen
    obtain rfl : i = es.length := by omega
    simp at hi
    subst hi
    exact ⟨ho, Ak, nk, ck, Av, nv, cv, by rw [← hl]; simp, by rw [← hl, List.getElem?_append_right (by omega)]; simp, by rw [← hl, List.getElem?_append_right (by omega)]; simp, by rw [← hl, List.getElem?_append_right (by omega)]; simp, hk, hv⟩
theorem LPk.ents {w : World} {b2 : Nat} {e : TypeId} {A : Option Addr} {n c : Nat} {cs : List Value} {es : List LE} (h : LPk w cs es) (hr : w.ownsRow b2 e 4 (.slice A n c) n cs) : LEnts w w.heap.size A n es := by
  have hR := Reads.of_own hr
  have hl := h.1
  have hl2 := hR.1
  refine ⟨by omega, fun i e hi => ?_⟩
  have hlt := (List.getElem?_eq_some_iff.1 hi).1
  obtain ⟨ho, Ak, nk, ck, Av, nv, cv, h1, h2, h3, h4, h5, h6⟩ := h.2 i e hi
  obtain ⟨ad, rfl, hb, hc⟩ := hR.2 (by omega)
  exact ⟨ho, ad, Ak, nk, ck, Av, nv, cv, rfl, by rw [block_of_add]; exact hb, hc _ _ h1, by rw [add_of_add]; exact hc _ _ h2, by rw [add_of_add]; exact hc _ _ h3, by rw [add_of_add]; exact hc _ _ h4, h5.sl, h6.sl⟩

/-- What is collected behind k rounds, x put in at a. -/
def lIns (es : List LE) (e : LE) (a k : Nat) : List LE := if k ≤ a then es.take k else es.take a ++ [e] ++ (es.drop a).take (k - a)
theorem lIns_lt {es : List LE} {e x : LE} {a k : Nat} (h : es[k]? = some x) (hk : k < a) : lIns es e a (k + 1) = lIns es e a k ++ [x] := by
  unfold lIns
  rw [if_pos (by omega), if_pos (by omega), take_succ_some h]
theorem lIns_eq {es : List LE} {e x : LE} {k : Nat} (h : es[k]? = some x) : lIns es e k (k + 1) = (lIns es e k k ++ [e]) ++ [x] := by
  unfold lIns
  rw [if_neg (by omega), if_pos (Nat.le_refl _), show k + 1 - k = 1 by omega]
  rw [show List.take 1 (List.drop k es) = [x] from by rw [show (1 : Nat) = 0 + 1 from rfl, take_succ_some (k := 0) (e := x) (by rw [List.getElem?_drop]; simpa using h)]; simp]
theorem lIns_gt {es : List LE} {e x : LE} {a k : Nat} (h : es[k]? = some x) (hk : a < k) : lIns es e a (k + 1) = lIns es e a k ++ [x] := by
  unfold lIns
  rw [if_neg (by omega), if_neg (by omega), show k + 1 - a = (k - a) + 1 by omega, take_succ_some (k := k - a) (e := x) (by rw [List.getElem?_drop]; rw [show a + (k - a) = k by omega]; exact h)]
  simp
theorem lIns_end_lt {es : List LE} {e : LE} {a : Nat} (h : a < es.length) : lIns es e a es.length = es.take a ++ [e] ++ es.drop a := by
  unfold lIns
  rw [if_neg (by omega)]
  congr 1
  exact List.take_of_length_le (by rw [List.length_drop]; exact Nat.le_refl _)
theorem lIns_end_eq {es : List LE} {e : LE} : lIns es e es.length es.length ++ [e] = es.take es.length ++ [e] ++ es.drop es.length := by
  unfold lIns
  rw [if_pos (Nat.le_refl _)]
  simp

theorem LStrict.insert {es : List LE} (h : LStrict es) {e : LE} {P : Nat} (hP : P ≤ es.length) (h1 : ∀ j, j < P → lRk es e.key j < 0) (h2 : P < es.length → 0 < lRk es e.key P) : LStrict (es.take P ++ [e] ++ es.drop P) := by
  have gt : ∀ (j : Nat) (b : LE), P ≤ j → es[j]? = some b → Lib.compareBytes e.key b.key < 0 := by
    intro j b hj hb
    have hjl := (List.getElem?_eq_some_iff.1 hb).1
    obtain ⟨p, hp⟩ : ∃ p, es[P]? = some p := ⟨_, List.getElem?_eq_getElem (by omega)⟩
    have h3 := h2 (by omega)
    simp only [lRk, hp] at h3
    rw [cmp_neg] at h3
    rcases Nat.lt_or_ge P j with h4 | h4
    · exact cmp_trans _ _ _ (by omega) (Int.le_of_lt (h P j p b h4 hp hb))
    · obtain rfl : P = j := by omega
      rw [hp] at hb
      cases hb
      omega
  have lt : ∀ (j : Nat) (b : LE), j < P → es[j]? = some b → Lib.compareBytes b.key e.key < 0 := by
    intro j b hj hb
    have := h1 j hj
    simpa [lRk, hb] using this
  have el : ∀ i, (es.take P ++ [e] ++ es.drop P)[i]? = if i < P then es[i]? else if i = P then some e else es[i - 1]? := by
    intro i
    have hl : (es.take P).length = P := by rw [List.length_take]; omega
    by_cases c1 : i < P
    · rw [if_pos c1, List.append_assoc, List.getElem?_append_left (by omega), List.getElem?_take, if_pos c1]
    · rw [if_neg c1, List.append_assoc, List.getElem?_append_right (by omega), hl]
      by_cases c2 : i = P
      · subst c2; simp
      · rw [if_neg c2, List.getElem?_append_right (by simp; omega), List.getElem?_drop]
        congr 1
        simp
        omega
  intro i j a b hij ha hb
  rw [el] at ha hb
  by_cases c1 : i < P
  · rw [if_pos c1] at ha
    by_cases c2 : j < P
    · rw [if_pos c2] at hb
      exact h i j a b hij ha hb
    · rw [if_neg c2] at hb
      by_cases c3 : j = P
      · rw [if_pos c3] at hb
        cases hb
        exact lt i a c1 ha
      · rw [if_neg c3] at hb
        exact h i (j - 1) a b (by omega) ha hb
  · rw [if_neg c1] at ha
    rw [if_neg (by omega), if_neg (by omega)] at hb
    by_cases c3 : i = P
    · rw [if_pos c3] at ha
      cases ha
      exact gt (j - 1) b (by omega) hb
    · rw [if_neg c3] at ha
      exact h (i - 1) (j - 1) a b (by omega) ha hb

end Go.Proofs.Ytmljfjmceakahaa
