/- SpaceApart, plain: what each page is; what the records behind are. Acts that came in. -/
import Derived.Test.YthijobbhpbklmaaSAwake
import Derived.ChangeArms
import Derived.ChangeSame
import Derived.ChangeSlices
import Derived.Deep.Fields
import Derived.Deep.Slices
import Derived.OpenShut
namespace Go.Proofs.Ythijobbhpbklmaa
open Go.RowKit
set_option linter.unusedVariables false
set_option linter.unusedSimpArgs false

def pcode (S : Sp) (q : Nat) : Nat := if q ∈ S.us then 1 else if q ∈ S.hd then 2 else if q ∈ S.fr then 3 else if q ∈ S.gn then 4 else 0
def whatL (S : Sp) : List Nat := (List.range 60).map (pcode S)
theorem whatL_length (S : Sp) : (whatL S).length = 60 := by simp [whatL]
theorem whatL_at (S : Sp) {q : Nat} (h : q < 60) : (whatL S)[q]? = some (pcode S q) := by
  simp [whatL, List.getElem?_range h]
theorem whatL_set {S S' : Sp} {p v : Nat} (hp : pcode S' p = v) (ho : ∀ q, q ≠ p → pcode S' q = pcode S q) : (whatL S).set p v = whatL S' := by
  apply List.ext_getElem?
  intro q
  by_cases hq : q < 60
  · rw [List.getElem?_set, whatL_at S' hq, whatL_at S hq]
    by_cases e : p = q
    · subst e
      rw [if_pos rfl, if_pos (by rw [whatL_length]; exact hq), hp]
    · rw [if_neg e, ho q (fun h => e h.symm)]
  · rw [List.getElem?_eq_none (by rw [List.length_set, whatL_length]; omega), List.getElem?_eq_none (by rw [whatL_length]; omega)]
theorem pcode_congr {S S' : Sp} {q : Nat} (h1 : q ∈ S'.us ↔ q ∈ S.us) (h2 : q ∈ S'.hd ↔ q ∈ S.hd) (h3 : q ∈ S'.fr ↔ q ∈ S.fr) (h4 : q ∈ S'.gn ↔ q ∈ S.gn) : pcode S' q = pcode S q := by
  unfold pcode
  simp only [h1, h2, h3, h4]
theorem mem_snoc_ne {l : List Nat} {p q : Nat} (h : q ≠ p) : q ∈ l ++ [p] ↔ q ∈ l := by simp [h]
/-- Take, as the pages see it. -/
theorem take_code {S S' : Sp} {p : Nat} (hw : S.OK) (hl : S.lim = 60) (hf : 50 ≤ S.fin) (h : S.take = (S', p, 0)) :
    (whatL S).set p 3 = whatL S' ∧ 2 ≤ p ∧ p < 60 ∧ (p < 50 → pcode S p = 1) ∧ pcode S p ≤ 1 ∧ S'.lim = 60 ∧ 50 ≤ S'.fin ∧ S'.wait = S.wait ∧ S'.hd = S.hd := by
  by_cases he : S.us = []
  · unfold Sp.take at h
    rw [if_pos he] at h
    by_cases hlim : S.lim ≤ S.fin
    · rw [if_pos hlim] at h
      injection h with _ h
      injection h with _ h
      exact absurd h (by decide)
    · rw [if_neg hlim] at h
      injection h with h1 h
      injection h with h2 _
      subst h2
      have n1 : S.fin ∉ S.us := by rw [he]; simp
      have n2 : S.fin ∉ S.hd := fun hh => by have := (hw.h1 _ hh).2; omega
      have n3 : S.fin ∉ S.fr := fun hh => by have := (hw.f1 _ hh).2; omega
      have n4 : S.fin ∉ S.gn := fun hh => by have := (hw.g1 _ hh).2; omega
      have hc0 : pcode S S.fin = 0 := by unfold pcode; rw [if_neg n1, if_neg n2, if_neg n3, if_neg n4]
      have := hw.e1
      subst h1
      refine ⟨whatL_set ?_ (fun q hq => pcode_congr Iff.rfl Iff.rfl (mem_snoc_ne hq) Iff.rfl), by omega, by omega, fun h5 => by omega, by omega, hl, by show 50 ≤ S.fin + 1; omega, rfl, rfl⟩
      unfold pcode
      rw [if_neg n1, if_neg n2, if_pos (by simp)]
  · obtain ⟨m1, m2⟩ := minS_mem he
    unfold Sp.take at h
    rw [if_neg he] at h
    injection h with h1 h
    injection h with h2 _
    subst h2
    have n2 := hw.uh _ m1
    obtain ⟨b1, b2⟩ := hw.u1 _ m1
    have := hw.e2
    subst h1
    have hc : pcode S (minS S.us) = 1 := by unfold pcode; rw [if_pos m1]
    refine ⟨whatL_set ?_ (fun q hq => pcode_congr (List.mem_erase_of_ne hq) Iff.rfl (mem_snoc_ne hq) Iff.rfl), b1, by omega, fun _ => hc, by omega, hl, hf, rfl, rfl⟩
    unfold pcode
    rw [if_neg (fun hh => ((hw.un.mem_erase_iff).1 hh).1 rfl), if_neg n2, if_pos (by simp)]
/-- Give, as the pages see it. -/
theorem give_code {S S' : Sp} {p : Nat} {e : Int} (hw : S.OK) (h : S.give p = (S', e)) :
    (S'.lim = S.lim ∧ S'.fin = S.fin ∧ S'.wait = S.wait ∧ S'.hd = S.hd) ∧ ((e = 1 ∧ S' = S) ∨ (e = 0 ∧ pcode S p = 3 ∧ (whatL S).set p 1 = whatL S') ∨ (e = 0 ∧ pcode S p = 0 ∧ (whatL S).set p 4 = whatL S')) := by
  by_cases hno : p < 2 ∨ S.fin ≤ p ∨ p ∈ S.us ∨ p ∈ S.hd ∨ p ∈ S.gn
  · rw [give_no hno] at h
    injection h with h1 h2
    subst h1 h2
    exact ⟨⟨rfl, rfl, rfl, rfl⟩, .inl ⟨rfl, rfl⟩⟩
  · have n1 : p ∉ S.us := fun hh => hno (.inr (.inr (.inl hh)))
    have n2 : p ∉ S.hd := fun hh => hno (.inr (.inr (.inr (.inl hh))))
    have n4 : p ∉ S.gn := fun hh => hno (.inr (.inr (.inr (.inr hh))))
    unfold Sp.give at h
    rw [if_neg hno] at h
    by_cases h3 : p ∈ S.fr
    · rw [if_pos h3] at h
      injection h with h1 h2
      subst h1 h2
      refine ⟨⟨rfl, rfl, rfl, rfl⟩, .inr (.inl ⟨rfl, by unfold pcode; rw [if_neg n1, if_neg n2, if_pos h3], whatL_set (by unfold pcode; rw [if_pos (by simp)]) (fun q hq => pcode_congr (mem_snoc_ne hq) Iff.rfl (List.mem_erase_of_ne hq) Iff.rfl)⟩)⟩
    · rw [if_neg h3] at h
      injection h with h1 h2
      subst h1 h2
      refine ⟨⟨rfl, rfl, rfl, rfl⟩, .inr (.inr ⟨rfl, by unfold pcode; rw [if_neg n1, if_neg n2, if_neg h3, if_neg n4], whatL_set (by unfold pcode; rw [if_neg n1, if_neg n2, if_neg h3, if_pos (by simp)]) (fun q hq => pcode_congr Iff.rfl Iff.rfl Iff.rfl (mem_snoc_ne hq))⟩)⟩
/-! records that may be -/
def RowOK (e : Nat) (r : FRc) : Prop := r.2 ≠ [] ∧ r.2.Pairwise (· < ·) ∧ ∀ p ∈ r.2, 2 ≤ p ∧ p < e
def SpR2 (l : List FRc) (e : Nat) : Prop := (∀ r ∈ l, RowOK e r) ∧ l.Pairwise (fun a b => a.1 < b.1) ∧ (rpAll l).Nodup
theorem rpAll_app (a b : List FRc) : rpAll (a ++ b) = rpAll a ++ rpAll b := by simp [rpAll]
theorem rpAll_one (r : FRc) : rpAll [r] = r.2 := by simp [rpAll]
theorem nodup_lt {l : List Nat} (h : l.Pairwise (· < ·)) : l.Nodup := h.imp (fun h => by omega)
theorem spright_of {l : List FRc} {e : Nat} (h : SpR2 l e) : SpRight l e := by
  obtain ⟨h1, h2, h3⟩ := h
  intro k r hk
  obtain ⟨hkl, hke⟩ := List.getElem?_eq_some_iff.1 hk
  obtain ⟨r1, r2, r3⟩ := h1 r (List.mem_of_getElem? hk)
  refine ⟨r1, fun q h0 hq => ?_, fun j p hj => ?_⟩
  · obtain ⟨hq1, hq2⟩ := List.getElem?_eq_some_iff.1 hq
    have := List.pairwise_iff_getElem.1 h2 (k - 1) k hq1 hkl (by omega)
    rw [hq2, hke] at this
    exact this
  · obtain ⟨hjl, hje⟩ := List.getElem?_eq_some_iff.1 hj
    have hpm := List.mem_of_getElem? hj
    obtain ⟨b1, b2⟩ := r3 p hpm
    refine ⟨b1, b2, fun q h0 hq => ?_, ?_⟩
    · obtain ⟨hq1, hq2⟩ := List.getElem?_eq_some_iff.1 hq
      have := List.pairwise_iff_getElem.1 r2 (j - 1) j hq1 hjl (by omega)
      rw [hq2, hje] at this
      exact this
    · have hspl : l = l.take k ++ r :: l.drop (k + 1) := by
        rw [← hke, ← List.drop_eq_getElem_cons hkl, List.take_append_drop]
      have hn : (rpAll (l.take k) ++ (r.2 ++ rpAll (l.drop (k + 1)))).Nodup := by
        have e1 : rpAll l = rpAll (l.take k) ++ (r.2 ++ rpAll (l.drop (k + 1))) := by
          conv => lhs; rw [hspl]
          rw [rpAll_app]
          rfl
        rw [← e1]; exact h3
      intro hm
      rcases List.mem_append.1 hm with hm | hm
      · exact (List.nodup_append.1 hn).2.2 p hm p (List.mem_append.2 (.inl hpm)) rfl
      · obtain ⟨i, hi⟩ := List.getElem?_of_mem hm
        have hil := (List.getElem?_eq_some_iff.1 hi).1
        rw [List.length_take] at hil
        rw [List.getElem?_take_of_lt (by omega)] at hi
        obtain ⟨hi1, hi2⟩ := List.getElem?_eq_some_iff.1 hi
        have := List.pairwise_iff_getElem.1 r2 i j hi1 hjl (by omega)
        rw [hi2, hje] at this
        omega
theorem of_spright {l : List FRc} {e : Nat} (h : SpRight l e) : SpR2 l e := by
  have hrow : ∀ r ∈ l, RowOK e r := fun r hr => by
    obtain ⟨k, hk⟩ := List.getElem?_of_mem hr
    obtain ⟨r1, _, r3⟩ := h k r hk
    refine ⟨r1, List.pairwise_iff_getElem.2 ?_, fun p hp => ?_⟩
    · have key : ∀ d i j (hi : i < r.2.length) (hj : j < r.2.length), j = i + d + 1 → r.2[i] < r.2[j] := by
        intro d
        induction d with
        | zero =>
          intro i j hi hj hd
          subst hd
          exact (r3 (i + 0 + 1) _ (List.getElem?_eq_getElem hj)).2.2.1 _ (by omega) (by rw [show i + 0 + 1 - 1 = i by omega]; exact List.getElem?_eq_getElem hi)
        | succ d ih =>
          intro i j hi hj hd
          have a := ih i (j - 1) hi (by omega) (by omega)
          have b := (r3 j _ (List.getElem?_eq_getElem hj)).2.2.1 _ (by omega) (List.getElem?_eq_getElem (show j - 1 < r.2.length by omega))
          omega
      intro i j hi hj hij
      exact key (j - i - 1) i j hi hj (by omega)
    · obtain ⟨j, hj⟩ := List.getElem?_of_mem hp
      exact ⟨(r3 j p hj).1, (r3 j p hj).2.1⟩
  refine ⟨hrow, List.pairwise_iff_getElem.2 ?_, ?_⟩
  · have key : ∀ d i j (hi : i < l.length) (hj : j < l.length), j = i + d + 1 → l[i].1 < l[j].1 := by
      intro d
      induction d with
      | zero =>
        intro i j hi hj hd
        subst hd
        exact (h (i + 0 + 1) _ (List.getElem?_eq_getElem hj)).2.1 _ (by omega) (by rw [show i + 0 + 1 - 1 = i by omega]; exact List.getElem?_eq_getElem hi)
      | succ d ih =>
        intro i j hi hj hd
        have a := ih i (j - 1) hi (by omega) (by omega)
        have b := (h j _ (List.getElem?_eq_getElem hj)).2.1 _ (by omega) (List.getElem?_eq_getElem (show j - 1 < l.length by omega))
        omega
    intro i j hi hj hij
    exact key (j - i - 1) i j hi hj (by omega)
  · have key : ∀ k, k ≤ l.length → (rpAll (l.take k)).Nodup := by
      intro k
      induction k with
      | zero => intro _; simp [rpAll]
      | succ k ih =>
        intro hk
        obtain ⟨r, hr⟩ : ∃ r, l[k]? = some r := ⟨_, List.getElem?_eq_getElem (by omega)⟩
        rw [htk_ hr, rpAll_app, rpAll_one]
        refine List.nodup_append.2 ⟨ih (by omega), nodup_lt (hrow r (List.mem_of_getElem? hr)).2.1, fun a ha b hb hab => ?_⟩
        obtain ⟨j, hj⟩ := List.getElem?_of_mem hb
        have := ((h k r hr).2.2 j b hj).2.2.2
        exact this (List.mem_append.2 (.inl (hab ▸ ha)))
    have := key l.length (Nat.le_refl _)
    rwa [List.take_length] at this
theorem srt_lt {l : List Nat} (h : l.Nodup) : (srt l).Pairwise (· < ·) := by
  have hn : (srt l).Nodup := (List.mergeSort_perm l _).nodup_iff.2 h
  have hp := srt_pair l
  exact (hp.and hn).imp (fun h => by have h1 := of_decide_eq_true h.1; have h2 := h.2; omega)
theorem rec1_row {l : List Nat} {t e : Nat} (hn : l.Nodup) (hb : ∀ p ∈ l, 2 ≤ p ∧ p < e) : ∀ r ∈ rec1 l t, RowOK e r ∧ r.1 = t := by
  intro r hr
  unfold rec1 at hr
  split at hr
  · cases hr
  · rename_i hne
    rw [List.mem_singleton.1 hr]
    refine ⟨⟨fun h => hne ?_, srt_lt hn, fun p hp => hb p (srt_mem.1 hp)⟩, rfl⟩
    have h : srt l = [] := h
    exact List.eq_nil_of_length_eq_zero (by rw [← srt_length l, h]; rfl)
theorem rec1_all (l : List Nat) (t : Nat) : rpAll (rec1 l t) = srt l := by
  unfold rec1
  split
  · rename_i h
    subst h
    rw [srt_nil]; rfl
  · exact rpAll_one _
/-- The records behind. -/
theorem srecs_right {S : Sp} {o t : Nat} {rs : List FRc} (hw : S.OK) (hr : SpR2 rs 50) (hf : 50 ≤ S.fin) (hwt : S.wait = wNew o rs) (hhd : S.hd = rpAll (wNew o rs)) (ht : ∀ r ∈ rs, r.1 < t) (ht0 : 0 < t) : SpR2 (sRecs S t) S.fin ∧ (∀ q, q ∈ rpAll (sRecs S t) ↔ q ∈ S.us ∨ q ∈ S.hd ∨ q ∈ S.gn) := by
  obtain ⟨q1, q2, q3⟩ := hr
  have hall : rpAll (sRecs S t) = (srt S.us ++ S.hd) ++ srt S.gn := by
    unfold sRecs
    rw [rpAll_app, rpAll_app, rec1_all, rec1_all, hwt, hhd]
  have hmw : ∀ r ∈ wNew o rs, r ∈ rs ∧ o < r.1 := fun r h => by
    obtain ⟨h1, h2⟩ := List.mem_filter.1 h
    simp at h2
    exact ⟨h1, h2⟩
  refine ⟨⟨fun r hr => ?_, ?_, ?_⟩, fun q => ?_⟩
  · unfold sRecs at hr
    rcases List.mem_append.1 hr with hr | hr
    · rcases List.mem_append.1 hr with hr | hr
      · exact (rec1_row hw.un hw.u1 r hr).1
      · rw [hwt] at hr
        obtain ⟨a, b, c⟩ := q1 r (hmw r hr).1
        exact ⟨a, b, fun p hp => ⟨(c p hp).1, by have := (c p hp).2; omega⟩⟩
    · exact (rec1_row hw.gd hw.g1 r hr).1
  · unfold sRecs
    have one : ∀ l s, (rec1 l s).Pairwise (fun a b : FRc => a.1 < b.1) := fun l s => by unfold rec1; split <;> simp
    refine List.pairwise_append.2 ⟨List.pairwise_append.2 ⟨one _ _, ?_, fun a ha b hb => ?_⟩, one _ _, fun a ha b hb => ?_⟩
    · rw [hwt]; exact q2.filter _
    · rw [(rec1_row hw.un hw.u1 a ha).2]
      rw [hwt] at hb
      have := (hmw b hb).2
      omega
    · rw [(rec1_row hw.gd hw.g1 b hb).2]
      rcases List.mem_append.1 ha with ha | ha
      · rw [(rec1_row hw.un hw.u1 a ha).2]
        exact ht0
      · rw [hwt] at ha
        exact ht a (hmw a ha).1
  · rw [hall]
    refine List.nodup_append.2 ⟨List.nodup_append.2 ⟨nodup_lt (srt_lt hw.un), hw.hn, fun a ha b hb e => ?_⟩, nodup_lt (srt_lt hw.gd), fun a ha b hb e => ?_⟩
    · subst e
      exact hw.uh a (srt_mem.1 ha) hb
    · subst e
      rcases List.mem_append.1 ha with ha | ha
      · exact hw.ug a (srt_mem.1 ha) (srt_mem.1 hb)
      · exact hw.gh a (srt_mem.1 hb) ha
  · rw [hall]
    simp only [List.mem_append, srt_mem, or_assoc]
/-- They are counted. -/
def frees (S : Sp) : List Nat := (List.range 60).filter fun q => pcode S q == 1 || pcode S q == 2 || pcode S q == 4
theorem pcode_free {S : Sp} (hw : S.OK) (q : Nat) : (pcode S q == 1 || pcode S q == 2 || pcode S q == 4) = true ↔ q ∈ S.us ∨ q ∈ S.hd ∨ q ∈ S.gn := by
  unfold pcode
  by_cases h1 : q ∈ S.us
  · simp [h1]
  · by_cases h2 : q ∈ S.hd
    · simp [h1, h2]
    · by_cases h3 : q ∈ S.fr
      · have := hw.fg q h3
        simp [h1, h2, h3, this]
      · by_cases h4 : q ∈ S.gn <;> simp [h1, h2, h3, h4]
theorem frees_len {S : Sp} (hw : S.OK) (hl : S.lim = 60) {A : List Nat} (hn : A.Nodup) (hm : ∀ q, q ∈ A ↔ q ∈ S.us ∨ q ∈ S.hd ∨ q ∈ S.gn) : A.length = (frees S).length := by
  refine ((List.perm_ext_iff_of_nodup hn (List.nodup_range.filter _)).2 fun q => ?_).length_eq
  rw [hm q, List.mem_filter, List.mem_range, pcode_free hw]
  have e2 := hw.e2
  constructor
  · intro h
    refine ⟨?_, h⟩
    rcases h with h | h | h
    · have := (hw.u1 q h).2; omega
    · have := (hw.h1 q h).2; omega
    · have := (hw.g1 q h).2; omega
  · exact fun h => h.2
section
open Go.RowKit Go.ChangeShapes Go.WideShapes Go.Deep

def SActs (w : World) (B : Nat) (A : Option Addr) (n : Nat) : Prop := ∀ i, i < n → ∃ (ad : Addr) (k pg : Nat), A = some ad ∧ ad.block < B ∧ w.cell? (ad.add (i * 2)) = some (.int .u8 (k : Int)) ∧ w.cell? ⟨(ad.add (i * 2)).block, (ad.add (i * 2)).off + 1, none⟩ = some (.int .u32 (pg : Int)) ∧ k < 256 ∧ pg < 4294967296
theorem SActs.below {w w' : World} {B : Nat} {A : Option Addr} {n : Nat} (h : SActs w B A n) (hb : Below B w w') : SActs w' B A n := fun i hi => by
  obtain ⟨ad, k, pg, rfl, hB, h0, h1, b0, b1⟩ := h i hi
  have hB' : (ad.add (i * 2)).block < B := by rw [block_of_add]; exact hB
  exact ⟨ad, k, pg, rfl, hB, (hb.cell (p := ad.add (i * 2)) hB').trans h0, (hb.cell (p := ⟨(ad.add (i * 2)).block, (ad.add (i * 2)).off + 1, none⟩) hB').trans h1, b0, b1⟩
set_option maxRecDepth 100000 in
theorem sacts_of_trod {H : Type} {enc : TypeId × Value → H} {w : World} {fuel : Nat} {cs : List Value} {x : DataW H × List MemPlace}
    (h : DataW.trod enc Try.prog w 0 (fun _ => true) true fuel 64 cs = some x) :
    ∃ (A : Option Addr) (n c : Nat), cs = [.slice A n c] ∧ n ≤ c ∧ c ≤ maxLen ∧ SActs w w.heap.size A n := by
  have hC : Try.prog.cellsOf 86 = 2 := by kernel_rfl
  rcases open_slice Try.underlying64 h with ⟨hcs, _⟩ | ⟨a, len, cap, m, n, D, Pl, hcs, hb, hl, hm, hmm, hx, hi⟩
  · exact ⟨none, 0, 0, hcs, Nat.le_refl _, Nat.zero_le _, fun i hi => absurd hi (Nat.not_lt_zero _)⟩
  · refine ⟨some a, len, cap, hcs, hl, hm, fun i hlt => ?_⟩
    obtain ⟨cs', hc, ht'⟩ := hi i (by rw [hmm]; simp; omega)
    rw [hC] at hc
    obtain ⟨ys, n', hn', hy, hlen, hyl, hf⟩ := DataW.trod_struct Try.underlying86 ht'
    rw [hC] at hlen
    obtain ⟨_, hcl, hat⟩ := World.cells?_some hc
    match cs', hlen, hat, hf with
    | [c0, c1], _, hat, hf =>
      have g0 : DataW.trod enc Try.prog w 0 (fun _ => true) true n' 5 (([c0, c1].drop 0).take (Try.prog.cellsOf 5)) = ys[0]? := hf 0 _ rfl
      have g1 : DataW.trod enc Try.prog w 0 (fun _ => true) true n' 61 (([c0, c1].drop 1).take (Try.prog.cellsOf 61)) = ys[1]? := hf 1 _ rfl
      have q0 := hat 0 (by decide)
      have q1 := hat 1 (by decide)
      have s0 : ys[0]? = some (ys[0]'(by rw [hyl]; decide)) := List.getElem?_eq_getElem _
      have s1 : ys[1]? = some (ys[1]'(by rw [hyl]; decide)) := List.getElem?_eq_getElem _
      have k0 : Try.prog.cellsOf 5 = 1 := by kernel_rfl
      have k1 : Try.prog.cellsOf 61 = 1 := by kernel_rfl
      rw [s0] at g0
      rw [s1] at g1
      rw [k0] at g0
      rw [k1] at g1
      simp only [List.drop_zero, List.drop_succ_cons, List.take_succ_cons, List.take_zero] at g0 g1
      obtain ⟨v0, e0, _, w0⟩ := DataW.trod_int Try.underlying5 g0
      obtain ⟨v1, e1, _, w1⟩ := DataW.trod_int Try.underlying61 g1
      have e0' : c0 = _ := List.head_eq_of_cons_eq e0
      have e1' : c1 = _ := List.head_eq_of_cons_eq e1
      rw [e0'] at q0
      rw [e1'] at q1
      have q0' : w.cell? (a.add (i * 2)) = some (.int .u8 v0) := by rw [Addr.add_zero'] at q0; exact q0
      have b0 := bounds_u8 w0
      have b1 := bounds_u32 w1
      obtain ⟨k, rfl⟩ := Int.eq_ofNat_of_zero_le b0.1
      obtain ⟨pg, rfl⟩ := Int.eq_ofNat_of_zero_le b1.1
      exact ⟨a, k, pg, rfl, (by have := World.block_lt_of_cell? w _ q0'; rwa [block_of_add] at this), q0', q1, by omega, by omega⟩
end
end Go.Proofs.Ythijobbhpbklmaa
