/- SpaceFull, plain. -/
import Derived.Test.YthijobbhpbklmaaSAwake
namespace Go.Proofs.Ythijobbhpbklmaa
open Go.RowKit
set_option linter.unusedVariables false
set_option linter.unusedSimpArgs false

def hit (fl : List Nat) (q : Nat) : Bool := (fl.take 20).any fun x => x % 30 == q
/-- The pages below p that are free. -/
def flt (fl : List Nat) (p : Nat) : List Nat := (List.range p).filter fun q => decide (2 ≤ q) && hit fl q
theorem flt_two (fl : List Nat) : flt fl 2 = [] := by
  unfold flt
  rw [List.filter_eq_nil_iff]
  intro q hq
  have := List.mem_range.1 hq
  simp
  omega
theorem flt_succ (fl : List Nat) {p : Nat} (hp : 2 ≤ p) : flt fl (p + 1) = flt fl p ++ (if hit fl p = true then [p] else []) := by
  unfold flt
  rw [List.range_succ, List.filter_append]
  congr 1
  rw [List.filter_cons, List.filter_nil]
  simp [hp]
theorem flt_sorted (fl : List Nat) (p : Nat) : (flt fl p).Pairwise (· < ·) := List.Pairwise.filter _ List.pairwise_lt_range
theorem flt_mem {fl : List Nat} {p q : Nat} (h : q ∈ flt fl p) : 2 ≤ q ∧ q < p := by
  unfold flt at h
  obtain ⟨h1, h2⟩ := List.mem_filter.1 h
  have := List.mem_range.1 h1
  simp at h2
  exact ⟨h2.1, this⟩
theorem flt_len (fl : List Nat) (p : Nat) : (flt fl p).length ≤ p := by
  have := List.length_filter_le (fun q => decide (2 ≤ q) && hit fl q) (List.range p)
  rw [List.length_range] at this
  exact this
theorem hit_yes {fl : List Nat} {i p x : Nat} (h : fl[i]? = some x) (hi : i < 20) (hx : x % 30 = p) : hit fl p = true := by
  unfold hit
  rw [List.any_eq_true]
  exact ⟨x, List.mem_of_getElem? (i := i) (by rw [List.getElem?_take_of_lt hi]; exact h), by simpa using hx⟩
theorem hit_no {fl : List Nat} {i p : Nat} (h : ∀ j x, j < i → fl[j]? = some x → x % 30 ≠ p) (hi : i = fl.length ∨ 20 ≤ i) : hit fl p = false := by
  unfold hit
  rw [List.any_eq_false]
  intro x hx
  obtain ⟨j, hj⟩ := List.getElem?_of_mem hx
  have hl := (List.getElem?_eq_some_iff.1 hj).1
  rw [List.length_take] at hl
  rw [List.getElem?_take_of_lt (by omega)] at hj
  have := h j x (by omega) hj
  simpa using this
def Fl (l : List Nat) (N L i : Nat) : Sp := ⟨N + (i - l.length), L, [], l.drop i, l.take i ++ List.range' N (i - l.length), [], []⟩
def fv (l : List Nat) (N i : Nat) : Nat := (l[i]?).getD (N + (i - l.length))
def fLast (l : List Nat) (N i : Nat) : Nat := if i = 0 then 0 else fv l N (i - 1)
theorem Fl_take {l : List Nat} {N L i : Nat} (hs : l.Pairwise (· < ·)) (hN : N ≤ L) (hi : i < l.length + (L - N)) : (Fl l N L i).take = (Fl l N L (i + 1), fv l N i, 0) := by
  by_cases h : i < l.length
  · obtain ⟨x, hx⟩ : ∃ x, l[i]? = some x := ⟨_, List.getElem?_eq_getElem h⟩
    have hd : l.drop i = x :: l.drop (i + 1) := by
      obtain ⟨_, e⟩ := List.getElem?_eq_some_iff.1 hx
      rw [← e]; exact List.drop_eq_getElem_cons h
    have hmin : minS (l.drop i) = x := by
      obtain ⟨m1, m2⟩ := minS_mem (S := l.drop i) (by rw [hd]; simp)
      have hp : (l.drop i).Pairwise (· < ·) := hs.sublist (List.drop_sublist _ _)
      have h1 := m2 x (by rw [hd]; exact List.mem_cons_self)
      rw [hd] at m1 hp
      rcases List.mem_cons.1 m1 with e | e
      · rw [hd]; exact e
      · have := (List.pairwise_cons.1 hp).1 _ e
        rw [← hd] at this
        omega
    unfold Sp.take
    rw [if_neg (show (Fl l N L i).us ≠ [] by show l.drop i ≠ []; rw [hd]; simp)]
    have e1 : (Fl l N L i).us.erase (minS (Fl l N L i).us) = l.drop (i + 1) := by
      show (l.drop i).erase (minS (l.drop i)) = _
      rw [hmin, hd, List.erase_cons_head]
    have e2 : (Fl l N L i).fr ++ [minS (Fl l N L i).us] = l.take (i + 1) ++ List.range' N (i + 1 - l.length) := by
      show (l.take i ++ List.range' N (i - l.length)) ++ [minS (l.drop i)] = _
      rw [hmin, show i - l.length = 0 by omega, show i + 1 - l.length = 0 by omega, htk_ hx]
      simp
    rw [e1, e2]
    have e3 : fv l N i = x := by unfold fv; rw [hx]; rfl
    rw [e3]
    show (({ fin := N + (i - l.length), lim := L, wait := [], us := _, fr := _, gn := [], hd := [] } : Sp), minS (l.drop i), (0 : Int)) = _
    rw [hmin, show N + (i - l.length) = N + (i + 1 - l.length) by omega]
    rfl
  · have hd : l.drop i = [] := List.drop_of_length_le (by omega)
    have hd1 : l.drop (i + 1) = [] := List.drop_of_length_le (by omega)
    unfold Sp.take
    rw [if_pos (show (Fl l N L i).us = [] from hd), if_neg (show ¬ (Fl l N L i).lim ≤ (Fl l N L i).fin from by show ¬ L ≤ N + (i - l.length); omega)]
    have e2 : (Fl l N L i).fr ++ [(Fl l N L i).fin] = l.take (i + 1) ++ List.range' N (i + 1 - l.length) := by
      show (l.take i ++ List.range' N (i - l.length)) ++ [N + (i - l.length)] = _
      rw [List.take_of_length_le (show l.length ≤ i by omega), List.take_of_length_le (show l.length ≤ i + 1 by omega), show i + 1 - l.length = (i - l.length) + 1 by omega, List.range'_concat]
      simp
    rw [e2]
    have e3 : fv l N i = N + (i - l.length) := by unfold fv; rw [List.getElem?_eq_none (by omega)]; rfl
    rw [e3]
    show (({ fin := N + (i - l.length) + 1, lim := L, wait := [], us := l.drop i, fr := _, gn := [], hd := [] } : Sp), N + (i - l.length), (0 : Int)) = _
    rw [show l.drop i = l.drop (i + 1) from hd.trans hd1.symm, show N + (i - l.length) + 1 = N + (i + 1 - l.length) by omega]
    rfl
theorem Fl_full {l : List Nat} {N L : Nat} (hN : N ≤ L) : (Fl l N L (l.length + (L - N))).take = (Fl l N L (l.length + (L - N)), 0, 21) := by
  have hd : l.drop (l.length + (L - N)) = [] := List.drop_of_length_le (by omega)
  unfold Sp.take
  rw [if_pos (show (Fl l N L (l.length + (L - N))).us = [] from hd), if_pos (show (Fl l N L (l.length + (L - N))).lim ≤ (Fl l N L (l.length + (L - N))).fin from by show L ≤ N + (l.length + (L - N) - l.length); omega)]
theorem fv_lo {l : List Nat} {N i : Nat} (h : i < l.length) : l[i]? = some (fv l N i) := by
  unfold fv
  rw [List.getElem?_eq_getElem h]
  rfl
theorem fv_hi {l : List Nat} {N i : Nat} (h : ¬ i < l.length) : fv l N i = N + (i - l.length) := by
  unfold fv
  rw [List.getElem?_eq_none (by omega)]
  rfl
theorem fLast_lt {l : List Nat} {N i : Nat} (hs : l.Pairwise (· < ·)) (hb : ∀ q ∈ l, 2 ≤ q ∧ q < N) (hN : 2 ≤ N) : fLast l N i < fv l N i := by
  unfold fLast
  by_cases h0 : i = 0
  · rw [if_pos h0]
    by_cases h : i < l.length
    · have := (hb _ (List.mem_of_getElem? (fv_lo (N := N) h))).1
      omega
    · rw [fv_hi h]; omega
  · rw [if_neg h0]
    by_cases h : i < l.length
    · have h1 := fv_lo (N := N) h
      have h2 := fv_lo (N := N) (show i - 1 < l.length by omega)
      obtain ⟨q1, e1⟩ := List.getElem?_eq_some_iff.1 h1
      obtain ⟨q2, e2⟩ := List.getElem?_eq_some_iff.1 h2
      have := List.pairwise_iff_getElem.1 hs (i - 1) i q2 q1 (by omega)
      omega
    · rw [fv_hi h]
      by_cases h2 : i - 1 < l.length
      · have := (hb _ (List.mem_of_getElem? (fv_lo (N := N) h2))).2
        omega
      · rw [fv_hi h2]; omega
theorem fv_bound {l : List Nat} {N L i : Nat} (hb : ∀ q ∈ l, 2 ≤ q ∧ q < N) (hN : 2 ≤ N) (hL : N ≤ L) (hi : i < l.length + (L - N)) : 2 ≤ fv l N i ∧ fv l N i < L := by
  by_cases h : i < l.length
  · have := hb _ (List.mem_of_getElem? (fv_lo (N := N) h))
    omega
  · rw [fv_hi h]; omega
theorem Fl_end {l : List Nat} {N L : Nat} (hN2 : 2 ≤ N) (hN : N ≤ L) (hs : l.Pairwise (· < ·)) (hb : ∀ q ∈ l, 2 ≤ q ∧ q < N) (hT : 0 < l.length + (L - N)) :
    ∃ S1 S2, (Fl l N L (l.length + (L - N))).give (fLast l N (l.length + (L - N))) = (S1, 0) ∧ S1.take = (S2, fLast l N (l.length + (L - N)), 0) ∧ S2.us = [] ∧ S2.wait = [] ∧ S2.gn = [] := by
  obtain ⟨T, hTe⟩ : ∃ T, l.length + (L - N) = T := ⟨_, rfl⟩
  rw [hTe] at hT ⊢
  have hd : l.drop T = [] := List.drop_of_length_le (by omega)
  have hlast : fLast l N T = fv l N (T - 1) := by unfold fLast; rw [if_neg (by omega)]
  rw [hlast]
  obtain ⟨h2, hL⟩ := fv_bound (i := T - 1) hb hN2 hN (by omega)
  have hmem : fv l N (T - 1) ∈ (Fl l N L T).fr := by
    show _ ∈ l.take T ++ List.range' N (T - l.length)
    by_cases h : T - 1 < l.length
    · exact List.mem_append.2 (.inl (by rw [List.take_of_length_le (by omega)]; exact List.mem_of_getElem? (fv_lo (N := N) h)))
    · refine List.mem_append.2 (.inr ?_)
      rw [fv_hi h]
      exact List.mem_range'_1.2 ⟨by omega, by omega⟩
  have hno : ¬ (fv l N (T - 1) < 2 ∨ (Fl l N L T).fin ≤ fv l N (T - 1) ∨ fv l N (T - 1) ∈ (Fl l N L T).us ∨ fv l N (T - 1) ∈ (Fl l N L T).hd ∨ fv l N (T - 1) ∈ (Fl l N L T).gn) := by
    rintro (h | h | h | h | h)
    · omega
    · have h : N + (T - l.length) ≤ fv l N (T - 1) := h
      omega
    · have h : _ ∈ l.drop T := h
      rw [hd] at h
      cases h
    · cases h
    · cases h
  generalize fv l N (T - 1) = q at *
  have e : (Fl l N L T).us ++ [q] = [q] := by show l.drop T ++ [q] = _; rw [hd]; rfl
  refine ⟨{ Fl l N L T with us := [q], fr := (Fl l N L T).fr.erase q }, { Fl l N L T with us := [], fr := (Fl l N L T).fr.erase q ++ [q] }, by unfold Sp.give; rw [if_neg hno, if_pos hmem, e], ?_, rfl, rfl, rfl⟩
  have hm : minS [q] = q := rfl
  unfold Sp.take
  rw [if_neg (by simp)]
  show (({ Fl l N L T with us := [q].erase (minS [q]), fr := (Fl l N L T).fr.erase q ++ [minS [q]] } : Sp), minS [q], (0 : Int)) = _
  rw [hm, List.erase_cons_head]
def fRs (l : List Nat) : List FRc := if l = [] then [] else [(1, l)]
theorem fRs_new (l : List Nat) (N L : Nat) : sNew N L 1 (fRs l) = Fl l N L 0 := by
  unfold fRs
  by_cases h : l = []
  · subst h
    rfl
  · rw [if_neg h]
    show (⟨N, L, [], l ++ [], [], [], []⟩ : Sp) = ⟨N + (0 - l.length), L, [], l.drop 0, l.take 0 ++ List.range' N (0 - l.length), [], []⟩
    simp
theorem fRs_right {l : List Nat} {N : Nat} (hs : l.Pairwise (· < ·)) (hb : ∀ q ∈ l, 2 ≤ q ∧ q < N) : SpRight (fRs l) N := by
  unfold fRs
  by_cases h : l = []
  · rw [if_pos h]
    intro k r hk
    simp at hk
  · rw [if_neg h]
    intro k r hk
    have hl := (List.getElem?_eq_some_iff.1 hk).1
    have hl : k < 1 := hl
    obtain rfl : k = 0 := by omega
    have hk : some (1, l) = some r := hk
    injection hk with hk
    subst hk
    refine ⟨h, fun q h0 => by omega, fun j p hj => ?_⟩
    obtain ⟨hj1, hj2⟩ := List.getElem?_eq_some_iff.1 hj
    have hpb := hb p (List.mem_of_getElem? hj)
    refine ⟨hpb.1, hpb.2, fun q h0 hq => ?_, ?_⟩
    · obtain ⟨q1, q2⟩ := List.getElem?_eq_some_iff.1 hq
      have := List.pairwise_iff_getElem.1 hs (j - 1) j q1 hj1 (by omega)
      have e1 : l[j - 1] = q := q2
      have e2 : l[j] = p := hj2
      omega
    · show p ∉ rpAll ([(1, l)].take 0) ++ l.take j
      intro hm
      have hm : p ∈ l.take j := by simpa [rpAll] using hm
      obtain ⟨i, hi⟩ := List.getElem?_of_mem hm
      have hil := (List.getElem?_eq_some_iff.1 hi).1
      rw [List.length_take] at hil
      rw [List.getElem?_take_of_lt (by omega)] at hi
      obtain ⟨q1, q2⟩ := List.getElem?_eq_some_iff.1 hi
      have := List.pairwise_iff_getElem.1 hs i j q1 hj1 (by omega)
      have e1 : l[i] = p := q2
      have e2 : l[j] = p := hj2
      omega
end Go.Proofs.Ythijobbhpbklmaa
