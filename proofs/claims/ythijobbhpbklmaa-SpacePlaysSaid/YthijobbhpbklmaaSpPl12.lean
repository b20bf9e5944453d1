/- SApP; SPlA; SPlB; SPlC; SRfA; SPlN; SRfB; SRfT; SRfS -/
import Derived.Test.YthijobbhpbklmaaSpPl11
import Derived.ChangeArms
import Derived.ChangeSame
import Derived.ChangeSlices
import Derived.Deep.Fields
import Derived.Deep.Slices
import Derived.OpenShut
/- SpaceApart, plain: what each page is; what the records behind are. Acts that came in. -/
namespace Go.Proofs.Ythijobbhpbklmaa
open Go.RowKit
set_option linter.unusedVariables false
set_option linter.unusedSimpArgs false

def pcode (S : Sp) (q : Nat) : Nat := if q ∈ S.us then 1 else if q ∈ S.hd then 2 else if q ∈ S.fr then 3 else if q ∈ S.gn then 4 else 0
theorem pcode_congr {S S' : Sp} {q : Nat} (h1 : q ∈ S'.us ↔ q ∈ S.us) (h2 : q ∈ S'.hd ↔ q ∈ S.hd) (h3 : q ∈ S'.fr ↔ q ∈ S.fr) (h4 : q ∈ S'.gn ↔ q ∈ S.gn) : pcode S' q = pcode S q := by
  unfold pcode
  simp only [h1, h2, h3, h4]
theorem mem_snoc_ne {l : List Nat} {p q : Nat} (h : q ≠ p) : q ∈ l ++ [p] ↔ q ∈ l := by simp [h]
/-! records that may be -/
def RowOK (e : Nat) (r : FRc) : Prop := r.2 ≠ [] ∧ r.2.Pairwise (· < ·) ∧ ∀ p ∈ r.2, 2 ≤ p ∧ p < e
def SpR2 (l : List FRc) (e : Nat) : Prop := (∀ r ∈ l, RowOK e r) ∧ l.Pairwise (fun a b => a.1 < b.1) ∧ (rpAll l).Nodup
theorem rpAll_app (a b : List FRc) : rpAll (a ++ b) = rpAll a ++ rpAll b := by simp [rpAll]
theorem rpAll_one (r : FRc) : rpAll [r] = r.2 := by simp [rpAll]
theorem nodup_lt {l : List Nat} (h : l.Pairwise (· < ·)) : l.Nodup := h.imp (fun h => by omega)
theorem of_spright {l : List FRc} {e : Nat} (h : SpRight l e) : SpR2 l e := by
  have hrow : ∀ r ∈ l, RowOK e r := fun r hr => by
    obtain ⟨k, hk⟩ := List.getElem?_of_mem hr
    obtain ⟨r1, _, r3⟩ := h k r hk
    refine ⟨r1, List.pairwise_iff_getElem.2 ?_, fun p hp => ?_⟩
    · have key : ∀ d i j (hi : i < r.2.length) (hj : j < r.2.length), j = i + d + 1 → r.2[i] < r.2[j] := by
        intro d
        induction d with
        | zero =>
          intro i j hi hj hd
          subst hd
          exact (r3 (i + 0 + 1) _ (List.getElem?_eq_getElem hj)).2.2.1 _ (by omega) (by rw [show i + 0 + 1 - 1 = i by omega]; exact List.getElem?_eq_getElem hi)
        | succ d ih =>
          intro i j hi hj hd
          have a := ih i (j - 1) hi (by omega) (by omega)
          have b := (r3 j _ (List.getElem?_eq_getElem hj)).2.2.1 _ (by omega) (List.getElem?_eq_getElem (show j - 1 < r.2.length by omega))
          omega
      intro i j hi hj hij
      exact key (j - i - 1) i j hi hj (by omega)
    · obtain ⟨j, hj⟩ := List.getElem?_of_mem hp
      exact ⟨(r3 j p hj).1, (r3 j p hj).2.1⟩
  refine ⟨hrow, List.pairwise_iff_getElem.2 ?_, ?_⟩
  · have key : ∀ d i j (hi : i < l.length) (hj : j < l.length), j = i + d + 1 → l[i].1 < l[j].1 := by
      intro d
      induction d with
      | zero =>
        intro i j hi hj hd
        subst hd
        exact (h (i + 0 + 1) _ (List.getElem?_eq_getElem hj)).2.1 _ (by omega) (by rw [show i + 0 + 1 - 1 = i by omega]; exact List.getElem?_eq_getElem hi)
      | succ d ih =>
        intro i j hi hj hd
        have a := ih i (j - 1) hi (by omega) (by omega)
        have b := (h j _ (List.getElem?_eq_getElem hj)).2.1 _ (by omega) (List.getElem?_eq_getElem (show j - 1 < l.length by omega))
        omega
    intro i j hi hj hij
    exact key (j - i - 1) i j hi hj (by omega)
  · have key : ∀ k, k ≤ l.length → (rpAll (l.take k)).Nodup := by
      intro k
      induction k with
      | zero => intro _; simp [rpAll]
      | succ k ih =>
        intro hk
        obtain ⟨r, hr⟩ : ∃ r, l[k]? = some r := ⟨_, List.getElem?_eq_getElem (by omega)⟩
        rw [htk_ hr, rpAll_app, rpAll_one]
        refine List.nodup_append.2 ⟨ih (by omega), nodup_lt (hrow r (List.mem_of_getElem? hr)).2.1, fun a ha b hb hab => ?_⟩
        obtain ⟨j, hj⟩ := List.getElem?_of_mem hb
        have := ((h k r hr).2.2 j b hj).2.2.2
        exact this (List.mem_append.2 (.inl (hab ▸ ha)))
    have := key l.length (Nat.le_refl _)
    rwa [List.take_length] at this
section
open Go.RowKit Go.ChangeShapes Go.WideShapes Go.Deep

def SActs (w : World) (B : Nat) (A : Option Addr) (n : Nat) : Prop := ∀ i, i < n → ∃ (ad : Addr) (k pg : Nat), A = some ad ∧ ad.block < B ∧ w.cell? (ad.add (i * 2)) = some (.int .u8 (k : Int)) ∧ w.cell? ⟨(ad.add (i * 2)).block, (ad.add (i * 2)).off + 1, none⟩ = some (.int .u32 (pg : Int)) ∧ k < 256 ∧ pg < 4294967296
theorem SActs.below {w w' : World} {B : Nat} {A : Option Addr} {n : Nat} (h : SActs w B A n) (hb : Below B w w') : SActs w' B A n := fun i hi => by
  obtain ⟨ad, k, pg, rfl, hB, h0, h1, b0, b1⟩ := h i hi
  have hB' : (ad.add (i * 2)).block < B := by rw [block_of_add]; exact hB
  exact ⟨ad, k, pg, rfl, hB, (hb.cell (p := ad.add (i * 2)) hB').trans h0, (hb.cell (p := ⟨(ad.add (i * 2)).block, (ad.add (i * 2)).off + 1, none⟩) hB').trans h1, b0, b1⟩
set_option maxRecDepth 100000 in
theorem sacts_of_trod {H : Type} {enc : TypeId × Value → H} {w : World} {fuel : Nat} {cs : List Value} {x : DataW H × List MemPlace}
    (h : DataW.trod enc Try.prog w 0 (fun _ => true) true fuel 64 cs = some x) :
    ∃ (A : Option Addr) (n c : Nat), cs = [.slice A n c] ∧ n ≤ c ∧ c ≤ maxLen ∧ SActs w w.heap.size A n := by
  have hC : Try.prog.cellsOf 86 = 2 := by kernel_rfl
  rcases open_slice Try.underlying64 h with ⟨hcs, _⟩ | ⟨a, len, cap, m, n, D, Pl, hcs, hb, hl, hm, hmm, hx, hi⟩
  · exact ⟨none, 0, 0, hcs, Nat.le_refl _, Nat.zero_le _, fun i hi => absurd hi (Nat.not_lt_zero _)⟩
  · refine ⟨some a, len, cap, hcs, hl, hm, fun i hlt => ?_⟩
    obtain ⟨cs', hc, ht'⟩ := hi i (by rw [hmm]; simp; omega)
    rw [hC] at hc
    obtain ⟨ys, n', hn', hy, hlen, hyl, hf⟩ := DataW.trod_struct Try.underlying86 ht'
    rw [hC] at hlen
    obtain ⟨_, hcl, hat⟩ := World.cells?_some hc
    match cs', hlen, hat, hf with
    | [c0, c1], _, hat, hf =>
      have g0 : DataW.trod enc Try.prog w 0 (fun _ => true) true n' 5 (([c0, c1].drop 0).take (Try.prog.cellsOf 5)) = ys[0]? := hf 0 _ rfl
      have g1 : DataW.trod enc Try.prog w 0 (fun _ => true) true n' 61 (([c0, c1].drop 1).take (Try.prog.cellsOf 61)) = ys[1]? := hf 1 _ rfl
      have q0 := hat 0 (by decide)
      have q1 := hat 1 (by decide)
      have s0 : ys[0]? = some (ys[0]'(by rw [hyl]; decide)) := List.getElem?_eq_getElem _
      have s1 : ys[1]? = some (ys[1]'(by rw [hyl]; decide)) := List.getElem?_eq_getElem _
      have k0 : Try.prog.cellsOf 5 = 1 := by kernel_rfl
      have k1 : Try.prog.cellsOf 61 = 1 := by kernel_rfl
      rw [s0] at g0
      rw [s1] at g1
      rw [k0] at g0
      rw [k1] at g1
      simp only [List.drop_zero, List.drop_succ_cons, List.take_succ_cons, List.take_zero] at g0 g1
      obtain ⟨v0, e0, _, w0⟩ := DataW.trod_int Try.underlying5 g0
      obtain ⟨v1, e1, _, w1⟩ := DataW.trod_int Try.underlying61 g1
      have e0' : c0 = _ := List.head_eq_of_cons_eq e0
      have e1' : c1 = _ := List.head_eq_of_cons_eq e1
      rw [e0'] at q0
      rw [e1'] at q1
      have q0' : w.cell? (a.add (i * 2)) = some (.int .u8 v0) := by rw [Addr.add_zero'] at q0; exact q0
      have b0 := bounds_u8 w0
      have b1 := bounds_u32 w1
      obtain ⟨k, rfl⟩ := Int.eq_ofNat_of_zero_le b0.1
      obtain ⟨pg, rfl⟩ := Int.eq_ofNat_of_zero_le b1.1
      exact ⟨a, k, pg, rfl, (by have := World.block_lt_of_cell? w _ q0'; rwa [block_of_add] at this), q0', q1, by omega, by omega⟩
end
end Go.Proofs.Ythijobbhpbklmaa

/- SpacePlays, plain: the reference's arrays at the state that a space stands for. -/
namespace Go.Proofs.Ythijobbhpbklmaa
open Go.RowKit
set_option linter.unusedVariables false
set_option linter.unusedSimpArgs false

/-- What each page is, below m pages. -/
def pwl (S : Sp) : List Int := (List.range S.fin).map fun q => (pcode S q : Int)
/-- Since when. -/
def ptl (m : Nat) (T : Nat → Nat) : List Int := (List.range m).map fun q => (T q : Int)
theorem pwl_length (S : Sp) : (pwl S).length = S.fin := by simp [pwl]
theorem ptl_length (m : Nat) (T : Nat → Nat) : (ptl m T).length = m := by simp [ptl]
theorem pwl_set {S S' : Sp} {p v : Nat} (hf : S'.fin = S.fin) (hp : pcode S' p = v) (ho : ∀ q, q ≠ p → pcode S' q = pcode S q) : (pwl S).set p (v : Int) = pwl S' := by
  apply List.ext_getElem?
  intro q
  by_cases hq : q < S.fin
  · rw [List.getElem?_set]
    by_cases e : p = q
    · subst e
      rw [if_pos rfl, if_pos (by rw [pwl_length]; exact hq)]
      simp [pwl, hf, List.getElem?_range hq, hp]
    · rw [if_neg e]
      simp [pwl, hf, List.getElem?_range hq, ho q (fun h => e h.symm)]
  · rw [List.getElem?_eq_none (by rw [List.length_set, pwl_length]; omega), List.getElem?_eq_none (by rw [pwl_length, hf]; omega)]
theorem pwl_at {S : Sp} {q : Nat} (h : q < S.fin) : (pwl S)[q]? = some (pcode S q : Int) := by simp [pwl, List.getElem?_range h]
theorem ptl_at {m : Nat} {T : Nat → Nat} {q : Nat} (h : q < m) : (ptl m T)[q]? = some (T q : Int) := by simp [ptl, List.getElem?_range h]
theorem ptl_snoc {m : Nat} {T : Nat → Nat} (h : T m = 0) : ptl m T ++ [0] = ptl (m + 1) T := by
  unfold ptl
  rw [List.range_succ, List.map_append]
  simp [h]
/-- Nothing is usable: one page more at the end. -/
theorem take_end {S : Sp} (hw : S.OK) (he : S.us = []) : pwl S ++ [3] = pwl { S with fin := S.fin + 1, fr := S.fr ++ [S.fin] } := by
  unfold pwl
  show _ = (List.range (S.fin + 1)).map _
  rw [List.range_succ, List.map_append]
  have hc : pcode { S with fin := S.fin + 1, fr := S.fr ++ [S.fin] } S.fin = 3 := by
    have n2 : S.fin ∉ S.hd := fun hh => by have := (hw.h1 _ hh).2; omega
    unfold pcode
    rw [if_neg (by show S.fin ∉ S.us; rw [he]; simp), if_neg n2, if_pos (by simp)]
  congr 1
  · refine List.map_congr_left fun q hq => ?_
    have := List.mem_range.1 hq
    exact congrArg Nat.cast (pcode_congr (S := S) (S' := { S with fin := S.fin + 1, fr := S.fr ++ [S.fin] }) (q := q) Iff.rfl Iff.rfl (mem_snoc_ne (by omega)) Iff.rfl).symm
  · simp [hc]
theorem no_us {S : Sp} (he : S.us = []) (q : Nat) : pcode S q ≠ 1 := by
  unfold pcode
  rw [if_neg (by rw [he]; simp)]
  repeat' split
  all_goals omega
/-- The lowest usable page is the first one that is. -/
theorem take_low {S : Sp} (hw : S.OK) (he : S.us ≠ []) : S.take = ({ S with us := S.us.erase (minS S.us), fr := S.fr ++ [minS S.us] }, minS S.us, 0) ∧ minS S.us < S.fin ∧ (∀ q, q < minS S.us → pcode S q ≠ 1) ∧ pcode S (minS S.us) = 1 ∧ (pwl S).set (minS S.us) (3 : Int) = pwl { S with us := S.us.erase (minS S.us), fr := S.fr ++ [minS S.us] } := by
  obtain ⟨m1, m2⟩ := minS_mem he
  obtain ⟨b1, b2⟩ := hw.u1 _ m1
  obtain ⟨m, hm⟩ : ∃ m, minS S.us = m := ⟨_, rfl⟩
  have htk : S.take = ({ S with us := S.us.erase (minS S.us), fr := S.fr ++ [minS S.us] }, minS S.us, 0) := by unfold Sp.take; rw [if_neg he]
  rw [hm] at m1 m2 b1 b2 htk ⊢
  refine ⟨htk, b2, fun q hq => ?_, by unfold pcode; rw [if_pos m1], ?_⟩
  · unfold pcode
    rw [if_neg (fun hh => by have := m2 q hh; omega)]
    repeat' split
    all_goals omega
  · refine pwl_set (v := 3) rfl ?_ (fun q hq => pcode_congr (List.mem_erase_of_ne hq) Iff.rfl (mem_snoc_ne hq) Iff.rfl)
    unfold pcode
    rw [if_neg (fun hh => ((hw.un.mem_erase_iff).1 hh).1 rfl), if_neg (hw.uh _ m1), if_pos (by simp)]
/-- Give, by what the page is. -/
theorem give_cases {S : Sp} (hw : S.OK) (p : Nat) (h2 : 2 ≤ p) (hp : p < S.fin) :
    (pcode S p = 0 ∧ (S.give p).2 = 0 ∧ (pwl S).set p (4 : Int) = pwl (S.give p).1) ∨ (pcode S p = 3 ∧ (S.give p).2 = 0 ∧ (pwl S).set p (1 : Int) = pwl (S.give p).1) ∨ (pcode S p ≠ 0 ∧ pcode S p ≠ 3 ∧ S.give p = (S, 1)) := by
  by_cases n1 : p ∈ S.us
  · have hc : pcode S p = 1 := by unfold pcode; rw [if_pos n1]
    exact .inr (.inr ⟨by omega, by omega, give_no (.inr (.inr (.inl n1)))⟩)
  by_cases n2 : p ∈ S.hd
  · have hc : pcode S p = 2 := by unfold pcode; rw [if_neg n1, if_pos n2]
    exact .inr (.inr ⟨by omega, by omega, give_no (.inr (.inr (.inr (.inl n2))))⟩)
  by_cases n4 : p ∈ S.gn
  · have n3 : p ∉ S.fr := fun h => hw.fg p h n4
    have hc : pcode S p = 4 := by unfold pcode; rw [if_neg n1, if_neg n2, if_neg n3, if_pos n4]
    exact .inr (.inr ⟨by omega, by omega, give_no (.inr (.inr (.inr (.inr n4))))⟩)
  have hno : ¬ (p < 2 ∨ S.fin ≤ p ∨ p ∈ S.us ∨ p ∈ S.hd ∨ p ∈ S.gn) := by
    rintro (h | h | h | h | h)
    · omega
    · omega
    · exact n1 h
    · exact n2 h
    · exact n4 h
  by_cases n3 : p ∈ S.fr
  · have hc : pcode S p = 3 := by unfold pcode; rw [if_neg n1, if_neg n2, if_pos n3]
    have hg : S.give p = ({ S with us := S.us ++ [p], fr := S.fr.erase p }, 0) := by unfold Sp.give; rw [if_neg hno, if_pos n3]
    refine .inr (.inl ⟨hc, by rw [hg], ?_⟩)
    rw [hg]
    exact pwl_set (S := S) (S' := { S with us := S.us ++ [p], fr := S.fr.erase p }) (p := p) (v := 1) rfl (by unfold pcode; rw [if_pos (by simp)]) (fun q hq => pcode_congr (mem_snoc_ne hq) Iff.rfl (List.mem_erase_of_ne hq) Iff.rfl)
  · have hc : pcode S p = 0 := by unfold pcode; rw [if_neg n1, if_neg n2, if_neg n3, if_neg n4]
    have hg : S.give p = ({ S with gn := S.gn ++ [p] }, 0) := by unfold Sp.give; rw [if_neg hno, if_neg n3]
    refine .inl ⟨hc, by rw [hg], ?_⟩
    rw [hg]
    exact pwl_set (S := S) (S' := { S with gn := S.gn ++ [p] }) (p := p) (v := 4) rfl (by unfold pcode; rw [if_neg n1, if_neg n2, if_neg n3, if_pos (by simp)]) (fun q hq => pcode_congr Iff.rfl Iff.rfl Iff.rfl (mem_snoc_ne hq))
/-- The pages that are something (of a change, if told). -/
def pickP (m : Nat) (f : Nat → Bool) : List Nat := (List.range m).filter f
theorem pickP_succ (i : Nat) (f : Nat → Bool) : pickP (i + 1) f = pickP i f ++ (if f i = true then [i] else []) := by
  unfold pickP
  rw [List.range_succ, List.filter_append, List.filter_cons, List.filter_nil]
theorem pickP_len (i : Nat) (f : Nat → Bool) : (pickP i f).length ≤ i := by
  have := List.length_filter_le f (List.range i)
  rw [List.length_range] at this
  exact this
end Go.Proofs.Ythijobbhpbklmaa

/- SpacePlays, plain: what the reference's some picks is what a set's record holds. -/
namespace Go.Proofs.Ythijobbhpbklmaa
open Go.RowKit
set_option linter.unusedVariables false

theorem pickP_lt (m : Nat) (f : Nat → Bool) : (pickP m f).Pairwise (· < ·) := List.Pairwise.filter _ List.pairwise_lt_range
theorem pickP_mem {m : Nat} {f : Nat → Bool} {q : Nat} : q ∈ pickP m f ↔ q < m ∧ f q = true := by simp [pickP]
theorem srt_of_lt {l : List Nat} (h : l.Pairwise (· < ·)) : srt l = l :=
  List.mergeSort_of_pairwise (h.imp fun h => by simp; omega)
theorem pick_srt {l : List Nat} {m : Nat} {f : Nat → Bool} (hn : l.Nodup) (hm : ∀ q, q ∈ l ↔ q < m ∧ f q = true) : pickP m f = srt l := by
  have hp : (pickP m f).Perm l := (List.perm_ext_iff_of_nodup (nodup_lt (pickP_lt m f)) hn).2 fun q => by rw [pickP_mem, hm q]
  rw [← srt_perm hp, srt_of_lt (pickP_lt m f)]
/-- All usable pages, all that are gone, and those that wait since one change. -/
theorem pick_us {S : Sp} (hw : S.OK) (T : Nat → Nat) (t : Nat) : pickP S.fin (fun q => (pcode S q == 1) && (!false || T q == t)) = srt S.us := by
  refine pick_srt hw.un fun q => ?_
  constructor
  · intro h
    refine ⟨(hw.u1 q h).2, ?_⟩
    unfold pcode
    simp [h]
  · rintro ⟨_, h⟩
    unfold pcode at h
    by_cases h1 : q ∈ S.us
    · exact h1
    · rw [if_neg h1] at h
      exfalso
      revert h
      repeat' split
      all_goals simp
theorem pick_gn {S : Sp} (hw : S.OK) (T : Nat → Nat) (t : Nat) : pickP S.fin (fun q => (pcode S q == 4) && (!false || T q == t)) = srt S.gn := by
  refine pick_srt hw.gd fun q => ?_
  constructor
  · intro h
    refine ⟨(hw.g1 q h).2, ?_⟩
    unfold pcode
    rw [if_neg (fun hh => hw.ug q hh h), if_neg (hw.gh q h), if_neg (fun hh => hw.fg q hh h), if_pos h]
    simp
  · rintro ⟨_, h⟩
    unfold pcode at h
    by_cases h4 : q ∈ S.gn
    · exact h4
    · exfalso
      revert h
      repeat' split
      all_goals simp
      all_goals contradiction
/-- Of each page that waits, since when: the record that holds it. -/
def TW (S : Sp) (T : Nat → Nat) : Prop := S.hd = rpAll S.wait ∧ SpR2 S.wait S.fin ∧ ∀ r ∈ S.wait, ∀ q ∈ r.2, T q = r.1
theorem pick_wait {S : Sp} (hw : S.OK) {T : Nat → Nat} (hT : TW S T) {r : FRc} (hr : r ∈ S.wait) : pickP S.fin (fun q => (pcode S q == 2) && (!true || T q == r.1)) = r.2 := by
  obtain ⟨h1, ⟨h2, h3, h4⟩, h5⟩ := hT
  obtain ⟨r1, r2, r3⟩ := h2 r hr
  have hpick : pickP S.fin (fun q => (pcode S q == 2) && (!true || T q == r.1)) = srt r.2 := by
    refine pick_srt (nodup_lt r2) fun q => ?_
    constructor
    · intro h
      have hq : q ∈ S.hd := by rw [h1]; exact rpAll_mem.2 ⟨r, hr, h⟩
      refine ⟨(r3 q h).2, ?_⟩
      unfold pcode
      rw [if_neg (fun hh => hw.uh q hh hq), if_pos hq, h5 r hr q h]
      simp
    · rintro ⟨_, h⟩
      simp only [Bool.not_true, Bool.false_or, Bool.and_eq_true, beq_iff_eq] at h
      obtain ⟨ha, hb⟩ := h
      have hq : q ∈ S.hd := by
        unfold pcode at ha
        by_cases n1 : q ∈ S.us
        · rw [if_pos n1] at ha; omega
        · rw [if_neg n1] at ha
          by_cases n2 : q ∈ S.hd
          · exact n2
          · rw [if_neg n2] at ha
            exfalso
            revert ha
            repeat' split
            all_goals omega
      rw [h1] at hq
      obtain ⟨r', hr', hq'⟩ := rpAll_mem.1 hq
      have e := h5 r' hr' q hq'
      have : r' = r := by
        obtain ⟨i, hi⟩ := List.getElem?_of_mem hr'
        obtain ⟨j, hj⟩ := List.getElem?_of_mem hr
        obtain ⟨i1, i2⟩ := List.getElem?_eq_some_iff.1 hi
        obtain ⟨j1, j2⟩ := List.getElem?_eq_some_iff.1 hj
        rcases Nat.lt_trichotomy i j with c | c | c
        · have := List.pairwise_iff_getElem.1 h3 i j i1 j1 c
          rw [i2, j2] at this
          omega
        · subst c
          rw [hi] at hj
          injection hj
        · have := List.pairwise_iff_getElem.1 h3 j i j1 i1 c
          rw [i2, j2] at this
          omega
      rw [← this]
      exact hq'
  rw [hpick, srt_of_lt r2]
end Go.Proofs.Ythijobbhpbklmaa

/- SpacePlays, plain: the reference's Records: the next change that waits. -/
namespace Go.Proofs.Ythijobbhpbklmaa
open Go.RowKit
set_option linter.unusedVariables false
set_option linter.unusedSimpArgs false

/-- The next change behind one that waits, among the pages below i. -/
def scanW (S : Sp) (T : Nat → Nat) (last : Nat) : Nat → Option Nat
  | 0 => none
  | i + 1 => if pcode S i = 2 ∧ last < T i then (match scanW S T last i with | none => some (T i) | some m => if T i < m then some (T i) else some m) else scanW S T last i
theorem scanW_spec (S : Sp) (T : Nat → Nat) (last : Nat) : ∀ i, (scanW S T last i = none → ∀ q, q < i → pcode S q = 2 → T q ≤ last) ∧ (∀ m, scanW S T last i = some m → last < m ∧ (∃ q, q < i ∧ pcode S q = 2 ∧ T q = m) ∧ ∀ q, q < i → pcode S q = 2 → last < T q → m ≤ T q) := by
  intro i
  induction i with
  | zero => exact ⟨fun _ q hq => by omega, fun m h => by simp [scanW] at h⟩
  | succ i ih =>
    obtain ⟨h1, h2⟩ := ih
    unfold scanW
    by_cases hc : pcode S i = 2 ∧ last < T i
    · rw [if_pos hc]
      cases hs : scanW S T last i with
      | none =>
        refine ⟨fun h => by simp at h, fun m hm => ?_⟩
        have hm : T i = m := by simpa using hm
        subst hm
        refine ⟨hc.2, ⟨i, by omega, hc.1, rfl⟩, fun q hq hq2 hq3 => ?_⟩
        rcases Nat.lt_or_ge q i with c | c
        · have := h1 hs q c hq2; omega
        · obtain rfl : q = i := by omega
          exact Nat.le_refl _
      | some m0 =>
        obtain ⟨a1, ⟨q0, a2, a3, a4⟩, a5⟩ := h2 m0 hs
        refine ⟨fun h => by revert h; simp only []; split <;> simp, fun m hm => ?_⟩
        simp only [] at hm
        by_cases hlt : T i < m0
        · rw [if_pos hlt] at hm
          have hm : T i = m := by simpa using hm
          subst hm
          refine ⟨hc.2, ⟨i, by omega, hc.1, rfl⟩, fun q hq hq2 hq3 => ?_⟩
          rcases Nat.lt_or_ge q i with c | c
          · have := a5 q c hq2 hq3; omega
          · obtain rfl : q = i := by omega
            exact Nat.le_refl _
        · rw [if_neg hlt] at hm
          have hm : m0 = m := by simpa using hm
          subst hm
          refine ⟨a1, ⟨q0, by omega, a3, a4⟩, fun q hq hq2 hq3 => ?_⟩
          rcases Nat.lt_or_ge q i with c | c
          · exact a5 q c hq2 hq3
          · obtain rfl : q = i := by omega
            omega
    · rw [if_neg hc]
      refine ⟨fun h q hq hq2 => ?_, fun m hm => ?_⟩
      · rcases Nat.lt_or_ge q i with c | c
        · exact h1 h q c hq2
        · obtain rfl : q = i := by omega
          rcases Nat.lt_or_ge last (T q) with e | e
          · exact absurd ⟨hq2, e⟩ hc
          · exact e
      · obtain ⟨a1, ⟨q0, a2, a3, a4⟩, a5⟩ := h2 m hm
        refine ⟨a1, ⟨q0, by omega, a3, a4⟩, fun q hq hq2 hq3 => ?_⟩
        rcases Nat.lt_or_ge q i with c | c
        · exact a5 q c hq2 hq3
        · obtain rfl : q = i := by omega
          exact absurd ⟨hq2, hq3⟩ hc
theorem pcode_two {S : Sp} (hw : S.OK) {q : Nat} : pcode S q = 2 ↔ q ∈ S.hd := by
  unfold pcode
  constructor
  · intro h
    by_cases n1 : q ∈ S.us
    · rw [if_pos n1] at h; omega
    · rw [if_neg n1] at h
      by_cases n2 : q ∈ S.hd
      · exact n2
      · rw [if_neg n2] at h
        exfalso
        revert h
        repeat' split
        all_goals omega
  · intro h
    rw [if_neg (fun hh => hw.uh q hh h), if_pos h]
/-- The next change is the next record's. -/
theorem scan_next {S : Sp} (hw : S.OK) {T : Nat → Nat} (hT : TW S T) {last j : Nat} (hlt : ∀ i r, i < j → S.wait[i]? = some r → r.1 ≤ last) (hgt : ∀ i r, j ≤ i → S.wait[i]? = some r → last < r.1) : scanW S T last S.fin = (S.wait[j]?).map (·.1) := by
  obtain ⟨h1, ⟨h2, h3, h4⟩, h5⟩ := hT
  obtain ⟨s1, s2⟩ := scanW_spec S T last S.fin
  cases hj : S.wait[j]? with
  | none =>
    cases hs : scanW S T last S.fin with
    | none => rfl
    | some m =>
      exfalso
      obtain ⟨a1, ⟨q, a2, a3, a4⟩, _⟩ := s2 m hs
      have hq := (pcode_two hw).1 a3
      rw [h1] at hq
      obtain ⟨r, hr, hqr⟩ := rpAll_mem.1 hq
      obtain ⟨i, hi⟩ := List.getElem?_of_mem hr
      have hil := (List.getElem?_eq_some_iff.1 hi).1
      have hjl := List.getElem?_eq_none_iff.1 hj
      have e1 := hlt i r (by omega) hi
      have e2 := h5 r hr q hqr
      omega
  | some r =>
    have hrm := List.mem_of_getElem? hj
    obtain ⟨rne, rlt, rb⟩ := h2 r hrm
    obtain ⟨q0, hq0⟩ := List.exists_mem_of_ne_nil _ rne
    have hq0f := (rb q0 hq0).2
    have hq0h : q0 ∈ S.hd := by rw [h1]; exact rpAll_mem.2 ⟨r, hrm, hq0⟩
    have hT0 := h5 r hrm q0 hq0
    have hr1 := hgt j r (Nat.le_refl _) hj
    cases hs : scanW S T last S.fin with
    | none =>
      exfalso
      have := s1 hs q0 hq0f ((pcode_two hw).2 hq0h)
      omega
    | some m =>
      obtain ⟨a1, ⟨q, a2, a3, a4⟩, a5⟩ := s2 m hs
      have hle := a5 q0 hq0f ((pcode_two hw).2 hq0h) (by omega)
      have hq := (pcode_two hw).1 a3
      rw [h1] at hq
      obtain ⟨r', hr', hqr'⟩ := rpAll_mem.1 hq
      obtain ⟨i, hi⟩ := List.getElem?_of_mem hr'
      have e2 := h5 r' hr' q hqr'
      have hij : j ≤ i := by
        rcases Nat.lt_or_ge i j with c | c
        · have := hlt i r' c hi; omega
        · exact c
      have hge : r.1 ≤ r'.1 := by
        obtain ⟨i1, i2⟩ := List.getElem?_eq_some_iff.1 hi
        obtain ⟨j1, j2⟩ := List.getElem?_eq_some_iff.1 hj
        rcases Nat.lt_or_ge j i with c | c
        · have := List.pairwise_iff_getElem.1 h3 j i j1 i1 c
          rw [i2, j2] at this
          omega
        · obtain rfl : i = j := by omega
          rw [hi] at hj
          injection hj with hj
          rw [hj]
          exact Nat.le_refl _
      show some m = some r.1
      congr 1
      omega
end Go.Proofs.Ythijobbhpbklmaa

/- SpacePlays: the reference's state in memory; its with, Give, by hand. -/
namespace Go.Proofs.Ythijobbhpbklmaa
open Go.RowKit
set_option linter.unusedVariables false
set_option linter.unusedSimpArgs false

/-- A row of whole numbers of a kind that stands in blocks ok. -/
def IR (w : World) (ok : Nat → Prop) (k : IntKind) (v : Value) (zs : List Int) : Prop :=
  ∃ A c, v = .slice A zs.length c ∧ (0 < zs.length → ∃ ad : Addr, A = some ad ∧ ok ad.block ∧ ad.block < w.heap.size ∧ ∀ (i : Nat) (z : Int), zs[i]? = some z → w.cell? (ad.add i) = some (.int k z))
theorem cell_of_heap {w w' : World} {p : Addr} (h : w'.heap[p.block]? = w.heap[p.block]?) : w'.cell? p = w.cell? p := by simp only [World.cell?, h]
theorem IR.keep {w w' : World} {ok ok' : Nat → Prop} {k : IntKind} {v : Value} {zs : List Int} (h : IR w ok k v zs) (hs : w.heap.size ≤ w'.heap.size) (hk : ∀ g, g < w.heap.size → ok g → w'.heap[g]? = w.heap[g]? ∧ ok' g) : IR w' ok' k v zs := by
  obtain ⟨A, c, rfl, h⟩ := h
  refine ⟨A, c, rfl, fun h0 => ?_⟩
  obtain ⟨ad, rfl, h1, h2, h3⟩ := h h0
  exact ⟨ad, rfl, (hk _ h2 h1).2, by omega, fun i z hz => (cell_of_heap (by rw [block_of_add]; exact (hk _ h2 h1).1)).trans (h3 i z hz)⟩
theorem IR.below {w w' : World} {ok : Nat → Prop} {k : IntKind} {v : Value} {zs : List Int} (h : IR w ok k v zs) (hb : Below w.heap.size w w') : IR w' ok k v zs := h.keep hb.size fun g hg ho => ⟨hb.block g hg, ho⟩
theorem IR.more {w : World} {ok ok' : Nat → Prop} {k : IntKind} {v : Value} {zs : List Int} (h : IR w ok k v zs) (ho : ∀ g, ok g → ok' g) : IR w ok' k v zs := h.keep (Nat.le_refl _) fun g _ hg => ⟨rfl, ho g hg⟩
theorem IR.nil_ (w : World) (ok : Nat → Prop) (k : IntKind) : IR w ok k (.slice none 0 0) [] := ⟨none, 0, rfl, fun h => absurd h (by simp)⟩
theorem IR.at_ {w : World} {ok : Nat → Prop} {k : IntKind} {A : Option Addr} {n c : Nat} {zs : List Int} (h : IR w ok k (.slice A n c) zs) {i : Nat} {z : Int} (hz : zs[i]? = some z) : ∃ ad : Addr, A = some ad ∧ w.cell? (ad.add i) = some (.int k z) := by
  obtain ⟨A', c', e, h⟩ := h
  cases e
  obtain ⟨ad, h1, _, _, h2⟩ := h (by have := (List.getElem?_eq_some_iff.1 hz).1; omega)
  exact ⟨ad, h1, h2 i z hz⟩
theorem IR.sl {w : World} {ok : Nat → Prop} {k : IntKind} {v : Value} {zs : List Int} (h : IR w ok k v zs) : ∃ A c, v = .slice A zs.length c := by
  obtain ⟨A, c, e, _⟩ := h
  exact ⟨A, c, e⟩
theorem IR.reads {w : World} {ok : Nat → Prop} {k : IntKind} {A : Option Addr} {n c : Nat} {zs : List Int} (h : IR w ok k (.slice A n c) zs) : Reads w w.heap.size 1 A n (zs.map (Value.int k)) := by
  obtain ⟨A', c', e, h⟩ := h
  cases e
  refine ⟨by simp, fun h0 => ?_⟩
  obtain ⟨ad, h1, _, h2, h3⟩ := h h0
  refine ⟨ad, h1, h2, fun j u hu => ?_⟩
  simp only [List.getElem?_map, Option.map_eq_some_iff] at hu
  obtain ⟨z, hz, rfl⟩ := hu
  exact h3 j z hz
theorem IR.of_own {w : World} {base n : Nat} {e : TypeId} {k : IntKind} {v : Value} {zs : List Int} (h : w.ownsRow base e 1 v n (zs.map (Value.int k))) : IR w (fun g => base ≤ g) k v zs := by
  obtain ⟨A, c, rfl⟩ := own_slice h
  have hl : n = zs.length := by have := h.1; simpa using this.symm
  subst hl
  have hr := Reads.of_own h
  refine ⟨A, c, rfl, fun h0 => ?_⟩
  obtain ⟨ad, e1, h2, h3⟩ := hr.2 h0
  refine ⟨ad, e1, ?_, h2, fun i z hz => h3 i _ (by simp [hz])⟩
  rcases h.2 with ⟨e2, h4⟩ | ⟨g, cap, cur, e2, h4, _⟩
  · omega
  · injection e2 with e2
    rw [e2] at e1
    injection e1 with e1
    rw [← e1]
    exact h4
theorem ints_one (k : IntKind) (zs : List Int) : ∀ u ∈ zs.map (Value.int k), u.oneCell' = true := by
  intro u hu
  obtain ⟨z, _, rfl⟩ := List.mem_map.1 hu
  rfl
theorem info_int : (Try.prog.info? 3).map (fun i => (i.zero, i.size, i.bytes)) = some (some (.int .i64 0), 1, 8) := by kernel_rfl
theorem info_u64 : (Try.prog.info? 63).map (fun i => (i.zero, i.size, i.bytes)) = some (some (.int .u64 0), 1, 8) := by kernel_rfl

theorem own_fresh {w : World} {base n : Nat} {e : TypeId} {v : Value} {xs : List Value} (h : w.ownsRow base e 1 v (0 + n) ([] ++ xs)) (hn : 0 < n) : ∃ g c, v = .slice (some ⟨g, 0, none⟩) n c ∧ w.ownsRow base e 1 (.slice (some ⟨g, 0, none⟩) n c) n xs ∧ base ≤ g ∧ ∀ (b : Nat) (C : Array Value) (t : TypeId), w.heap[b]? = some (.cells C t (0, 0)) → e ≠ t → b ≠ g := by
  obtain ⟨A, c, rfl⟩ := own_slice h
  rw [Nat.zero_add, List.nil_append] at h
  rw [Nat.zero_add]
  rcases h.2 with ⟨e, h0⟩ | ⟨g, cap, cur, e, hb, _⟩
  · omega
  · injection e with e
    subst e
    exact ⟨g, c, rfl, h, hb, fun b C t hC hne e => own_ne h hC hne (by simp [Value.ownBlock, e])⟩
theorem blk_set3 {w : World} {g : Nat} {t : TypeId} {a b c : Value} (h : w.heap[g]? = some (.cells #[a, b, c] t (0, 0))) (x y z : Value) : (((w.setCell ⟨g, 0, none⟩ x).setCell ⟨g, 1, none⟩ y).setCell ⟨g, 2, none⟩ z).heap[g]? = some (.cells #[x, y, z] t (0, 0)) := by
  simpa using blk_set (blk_set (blk_set h 0 x) 1 y) 2 z
theorem heap_set3 {g k : Nat} (w' : World) (h : k ≠ g) (x y z : Value) : (((w'.setCell ⟨g, 0, none⟩ x).setCell ⟨g, 1, none⟩ y).setCell ⟨g, 2, none⟩ z).heap[k]? = w'.heap[k]? := by
  rw [Below.heap_setCell _ _ _ _ h, Below.heap_setCell _ _ _ _ h, Below.heap_setCell _ _ _ _ h]
theorem below_set3 {w0 w : World} {B g : Nat} (h : Below B w0 w) (hg : B ≤ g) (x y z : Value) : Below B w0 (((w.setCell ⟨g, 0, none⟩ x).setCell ⟨g, 1, none⟩ y).setCell ⟨g, 2, none⟩ z) :=
  ((h.setCell (p := ⟨g, 0, none⟩) hg x).setCell (p := ⟨g, 1, none⟩) hg y).setCell (p := ⟨g, 2, none⟩) hg z
theorem own_set3 {w : World} {base n g : Nat} {e : TypeId} {size : Nat} {v : Value} {xs : List Value} (h : w.ownsRow base e size v n xs) (hg : some g ≠ v.ownBlock) (x y z : Value) : (((w.setCell ⟨g, 0, none⟩ x).setCell ⟨g, 1, none⟩ y).setCell ⟨g, 2, none⟩ z).ownsRow base e size v n xs :=
  own_setCell (own_setCell (own_setCell h (p := ⟨g, 0, none⟩) hg x) (p := ⟨g, 1, none⟩) hg y) (p := ⟨g, 2, none⟩) hg z
section
variable {P : Program}
theorem results_c {fn : Func} {p : Tmp} {ty : TypeId} (h : fn.results = #[.cell p ty]) (tmps : Array Value) (w : World) (g : Nat) (t : TypeId) (cs : Array Value) (fr : Nat × Nat) (d : TypeDesc)
    (hp : tmps.getD p undef = .pointer (some ⟨g, 0, none⟩)) (hg : w.heap[g]? = some (.cells cs t fr))
    (hu : P.underlying ty = some d) (hd : (match d with | .struct _ | .array _ _ => true | _ => false) = true) (hi : (P.info? ty).map (·.size) = some cs.size) :
    (results fn tmps).run P w = .ok (.agg cs) w := results_cell_row h tmps w g t cs fr d hp hg hu hd hi
theorem results_ct {fn : Func} {p u : Tmp} {ty : TypeId} (h : fn.results = #[.cell p ty, .tmp u]) (tmps : Array Value) (w : World) (g : Nat) (t : TypeId) (cs : Array Value) (fr : Nat × Nat) (d : TypeDesc)
    (hp : tmps.getD p undef = .pointer (some ⟨g, 0, none⟩)) (hg : w.heap[g]? = some (.cells cs t fr))
    (hu : P.underlying ty = some d) (hd : (match d with | .struct _ | .array _ _ => true | _ => false) = true) (hi : (P.info? ty).map (·.size) = some cs.size) :
    (results fn tmps).run P w = .ok (.tuple #[.agg cs, tmps.getD u undef]) w := by
  have hp' : tmps[p]?.getD undef = .pointer (some ⟨g, 0, none⟩) := by simpa using hp
  simp [results, h, hp', asAddr, run_loadVar_row w g t ty cs fr d hg hu hd hi]
theorem results_ctu {fn : Func} {p u v : Tmp} {ty : TypeId} (h : fn.results = #[.cell p ty, .tmp u, .tmp v]) (tmps : Array Value) (w : World) (g : Nat) (t : TypeId) (cs : Array Value) (fr : Nat × Nat) (d : TypeDesc)
    (hp : tmps.getD p undef = .pointer (some ⟨g, 0, none⟩)) (hg : w.heap[g]? = some (.cells cs t fr))
    (hu : P.underlying ty = some d) (hd : (match d with | .struct _ | .array _ _ => true | _ => false) = true) (hi : (P.info? ty).map (·.size) = some cs.size) :
    (results fn tmps).run P w = .ok (.tuple #[.agg cs, tmps.getD u undef, tmps.getD v undef]) w := by
  have hp' : tmps[p]?.getD undef = .pointer (some ⟨g, 0, none⟩) := by simpa using hp
  simp [results, h, hp', asAddr, run_loadVar_row w g t ty cs fr d hg hu hd hi]
end
set_option maxRecDepth 100000 in
/-- with -/
theorem rwith_any (w : World) (ok : Nat → Prop) (v1 : Value) (A2 : Option Addr) (n2 c2 : Nat) (l : List Int) (m : Int) (h : IR w ok .i64 v1 l) (hl : l.length ≤ 100000) (p : Nat) (hp : p < l.length) (x : Int) :
    Calls Try.prog 69 #[.agg #[v1, (.slice A2 n2 c2), .int .i64 m], .int .i64 (p : Int), .int .i64 x] w fun e w' => ∃ v', e = .returned (.agg #[v', (.slice A2 n2 c2), .int .i64 m]) ∧ IR w' (fun g => w.heap.size ≤ g) .i64 v' (l.set p x) ∧ Below w.heap.size w w' := by
  obtain ⟨ii, hi0, hz0, hz1, hz2⟩ := info_parts info_int
  obtain ⟨A, c, rfl⟩ := h.sl
  have hrd := h.reads
  obtain ⟨n, hn⟩ : ∃ n, l.length = n := ⟨_, rfl⟩
  rw [hn] at hl hp hrd ⊢
  have HN := Lib.hid hn
  clear h hn
  go_enter Try.func69, Try.ntmps69
  have y0 : ((w.alloc (.cells #[.slice A n c, (.slice A2 n2 c2), .int .i64 m] 77)).alloc (.cells #[.slice none 0 0, .slice none 0 0, .int .i64 0] 77)).heap[w.heap.size]? = some (.cells #[.slice A n c, (.slice A2 n2 c2), .int .i64 m] 77 (0, 0)) := heap_alloc2_old w _ _
  have y1 : ((w.alloc (.cells #[.slice A n c, (.slice A2 n2 c2), .int .i64 m] 77)).alloc (.cells #[.slice none 0 0, .slice none 0 0, .int .i64 0] 77)).heap[w.heap.size + 1]? = some (.cells #[.slice none 0 0, .slice none 0 0, .int .i64 0] 77 (0, 0)) := heap_alloc2_new w _ _
  have hB2 : Below w.heap.size w ((w.alloc (.cells #[.slice A n c, (.slice A2 n2 c2), .int .i64 m] 77)).alloc (.cells #[.slice none 0 0, .slice none 0 0, .int .i64 0] 77)) := ((Below.refl _ _).alloc (Nat.le_refl _) _).alloc (by simp) _
  have Y0 := Lib.hid y0
  have Y1 := Lib.hid y1
  have HB2 := Lib.hid hB2
  clear y0 y1 hB2
  obtain ⟨z, hz⟩ : ∃ z, l[p]? = some z := ⟨_, List.getElem?_eq_getElem (by rw [HN.out]; exact hp)⟩
  have hfin : ∀ (v8 : Value) (w8 : World), w8.ownsRow w.heap.size 3 1 v8 (0 + n) ([] ++ l.map (Value.int .i64)) → ((w.alloc (.cells #[.slice A n c, (.slice A2 n2 c2), .int .i64 m] 77)).alloc (.cells #[.slice none 0 0, .slice none 0 0, .int .i64 0] 77)).grownBy w8 (Value.slice none 0 0).ownBlock →
      ∃ (g c8 : Nat), v8 = .slice (some ⟨g, 0, none⟩) n c8 ∧ w8.cell? ⟨g, p, none⟩ = some (.int .i64 z) ∧ w8.frozen? ⟨g, p, none⟩ = false ∧ g ≠ w.heap.size ∧ g ≠ w.heap.size + 1 ∧
        ∃ w9, w8.setCell ⟨g, p, none⟩ (.int .i64 x) = w9 ∧ w9.heap[w.heap.size]? = some (.cells #[.slice A n c, (.slice A2 n2 c2), .int .i64 m] 77 (0, 0)) ∧ w9.heap[w.heap.size + 1]? = some (.cells #[.slice none 0 0, .slice none 0 0, .int .i64 0] 77 (0, 0)) ∧ Hid (Below w.heap.size w w9 ∧ w9.ownsRow w.heap.size 3 1 (.slice (some ⟨g, 0, none⟩) n c8) n ((l.set p x).map (Value.int .i64))) := fun v8 w8 hown8 hg8 => by
    obtain ⟨g, c8, rfl, ho8, hbg, hne⟩ := own_fresh hown8 (by omega)
    have x0 := blk_grown Y0.out hg8 (by simp [Value.ownBlock])
    have x1 := blk_grown Y1.out hg8 (by simp [Value.ownBlock])
    have n0 := hne _ _ _ x0 (by decide)
    have n1 := hne _ _ _ x1 (by decide)
    have hb8 : Below w.heap.size w w8 := HB2.out.grown hg8 (by have := HB2.out.size; omega) (fun k hk => by simp [Value.ownBlock] at hk)
    have r1 := ho8.cellAt p (by omega)
    rw [List.getElem?_map, hz] at r1
    refine ⟨g, c8, rfl, r1, ho8.frozenAt p, n0.symm, n1.symm, _, rfl, blk_far x0 (p := ⟨g, p, none⟩) n0 _, blk_far x1 (p := ⟨g, p, none⟩) n1 _, Lib.hid ⟨hb8.setCell (p := ⟨g, p, none⟩) hbg _, ?_⟩⟩
    rw [List.map_set]
    exact (ho8.stored p _).1
  have HF := Lib.hid hfin
  clear hfin hz HN Y0 Y1 HB2
  go_wp2_with (first | (at_builtin; refine wpList_append_any _ rfl (.tmp 8) (.tmp 10) _ rfl w.heap.size 3 ii _ 1 8 Try.underlying74 hi0 hz0 hz1 hz2 rfl (by omega) (.slice none 0 0) 0 [] rfl (World.ownsRow_nil _ _ _ _) w.heap.size A n c _ rfl ((hrd.alloc' _).alloc' _) (ints_one _ _) (by simp only [maxLen]; omega) (by omega) (by simp; omega) ?_; intro v8 w8 hown8 hg8 hat8; obtain ⟨g, c8, rfl, r1, r2, n0, n1, w9, e9, x0, x1, HB9⟩ := HF.out v8 w8 hown8 hg8; clear hown8 hg8 hat8; have a0 := blk_cell x0 0; have a1 := blk_cell x0 1; have a2 := blk_cell x0 2; have f0 := blk_frozen x0 0; have e0 := blk_cell x1 0; have e1 := blk_cell x1 1; have e2 := blk_cell x1 2; have g0 := blk_frozen x1 0; have g1 := blk_frozen x1 1; have g2 := blk_frozen x1 2))
  have hz := HB9.out.1.size
  have X1 := blk_set3 (blk_far x1 (p := ⟨w.heap.size, 0, none⟩) (by simp) (.slice (some ⟨g, 0, none⟩) n c8)) (.slice (some ⟨g, 0, none⟩) n c8) (.slice A2 n2 c2) (.int .i64 m)
  have hB := below_set3 (g := w.heap.size + 1) (HB9.out.1.setCell (p := ⟨w.heap.size, 0, none⟩) (Nat.le_refl _) (.slice (some ⟨g, 0, none⟩) n c8)) (by omega) (.slice (some ⟨g, 0, none⟩) n c8) (.slice A2 n2 c2) (.int .i64 m)
  refine bodyPost_ret (results_c rfl _ _ (w.heap.size + 1) _ _ (0, 0) _ rfl X1 Try.underlying77 rfl (by kernel_rfl)) rfl ?_
  have k0 : some w.heap.size ≠ (Value.slice (some ⟨g, 0, none⟩) n c8).ownBlock := fun e => n0 (by simpa [Value.ownBlock] using e.symm)
  have k1 : some (w.heap.size + 1) ≠ (Value.slice (some ⟨g, 0, none⟩) n c8).ownBlock := fun e => n1 (by simpa [Value.ownBlock] using e.symm)
  exact ⟨_, rfl, IR.of_own (own_set3 (own_setCell HB9.out.2 (p := ⟨w.heap.size, 0, none⟩) k0 _) k1 _ _ _), hB⟩
end Go.Proofs.Ythijobbhpbklmaa

/- SpacePlays, plain: the reference's New; since when each page waits. -/
namespace Go.Proofs.Ythijobbhpbklmaa
open Go.RowKit
set_option linter.unusedVariables false
set_option linter.unusedSimpArgs false

/-- Since when a page is let go of. -/
def tOf : List FRc → Nat → Nat
  | [], _ => 0
  | r :: l, q => if q ∈ r.2 then r.1 else tOf l q
theorem rpAll_cons (r : FRc) (l : List FRc) : rpAll (r :: l) = r.2 ++ rpAll l := rfl
theorem tOf_none : ∀ {rs : List FRc} {q : Nat}, q ∉ rpAll rs → tOf rs q = 0
  | [], _, _ => rfl
  | r :: l, q, h => by
    rw [rpAll_cons, List.mem_append] at h
    unfold tOf
    rw [if_neg (fun hh => h (.inl hh))]
    exact tOf_none (fun hh => h (.inr hh))
theorem tOf_snoc : ∀ {rs : List FRc} {r : FRc} {q : Nat}, q ∉ rpAll rs → tOf (rs ++ [r]) q = if q ∈ r.2 then r.1 else 0
  | [], r, q, _ => rfl
  | a :: l, r, q, h => by
    rw [rpAll_cons, List.mem_append] at h
    show tOf (a :: (l ++ [r])) q = _
    unfold tOf
    rw [if_neg (fun hh => h (.inl hh))]
    exact tOf_snoc (fun hh => h (.inr hh))
theorem tOf_snoc_old : ∀ {rs : List FRc} {r : FRc} {q : Nat}, q ∉ r.2 → tOf (rs ++ [r]) q = tOf rs q
  | [], r, q, h => by
    show (if q ∈ r.2 then r.1 else tOf [] q) = _
    rw [if_neg h]
  | a :: l, r, q, h => by
    show (if q ∈ a.2 then a.1 else tOf (l ++ [r]) q) = if q ∈ a.2 then a.1 else tOf l q
    rw [tOf_snoc_old h]
theorem tOf_mem : ∀ {rs : List FRc} {r : FRc} {q : Nat}, (rpAll rs).Nodup → r ∈ rs → q ∈ r.2 → tOf rs q = r.1
  | a :: l, r, q, hn, hr, hq => by
    rw [rpAll_cons] at hn
    obtain ⟨n1, n2, n3⟩ := List.nodup_append.1 hn
    unfold tOf
    rcases List.mem_cons.1 hr with rfl | hr
    · rw [if_pos hq]
    · rw [if_neg (fun hh => n3 q hh q (rpAll_mem.2 ⟨r, hr, hq⟩) rfl)]
      exact tOf_mem n2 hr hq
theorem ptl_congr {m : Nat} {f g : Nat → Nat} (h : ∀ q, q < m → f q = g q) : ptl m f = ptl m g := by
  unfold ptl
  refine List.map_congr_left fun q hq => ?_
  rw [h q (List.mem_range.1 hq)]
theorem ptl_set {m p v : Nat} {f g : Nat → Nat} (hp : g p = v) (ho : ∀ q, q ≠ p → g q = f q) : (ptl m f).set p (v : Int) = ptl m g := by
  apply List.ext_getElem?
  intro q
  by_cases hq : q < m
  · rw [List.getElem?_set]
    by_cases e : p = q
    · subst e
      rw [if_pos rfl, if_pos (by rw [ptl_length]; exact hq), ptl_at hq, hp]
    · rw [if_neg e, ptl_at hq, ptl_at hq, ho q (fun h => e h.symm)]
  · rw [List.getElem?_eq_none (by rw [List.length_set, ptl_length]; omega), List.getElem?_eq_none (by rw [ptl_length]; omega)]
/-- Some pages of one record more. -/
def spa (a : Nat) (S : Sp) (T : Nat) (pl : List Nat) (j : Nat) : Sp := if T ≤ a then { S with us := S.us ++ pl.take j } else { S with hd := S.hd ++ pl.take j }
theorem spa_fin (a : Nat) (S : Sp) (T : Nat) (pl : List Nat) (j : Nat) : (spa a S T pl j).fin = S.fin := by unfold spa; split <;> rfl
theorem spa_zero (a : Nat) (S : Sp) (T : Nat) (pl : List Nat) : pwl (spa a S T pl 0) = pwl S := by
  unfold spa
  split <;> simp
theorem spa_end (e l a : Nat) (rs : List FRc) (T : Nat) (pl : List Nat) : pwl (spa a (sNew e l a rs) T pl pl.length) = pwl (sNew e l a (rs ++ [(T, pl)])) := by
  unfold spa
  by_cases h : T ≤ a
  · rw [if_pos h, sNew_old h, List.take_length]
  · rw [if_neg h, sNew_new h, List.take_length]
    rfl
theorem spa_step {a : Nat} {S : Sp} {T : Nat} {pl : List Nat} {j q : Nat} (hq : pl[j]? = some q) (hn : q ∉ S.us ∧ q ∉ S.hd) : (T ≤ a → ((pwl (spa a S T pl j)).set q 2).set q 1 = pwl (spa a S T pl (j + 1))) ∧ (¬ T ≤ a → (pwl (spa a S T pl j)).set q 2 = pwl (spa a S T pl (j + 1))) := by
  have htk := htk_ hq
  constructor
  · intro h
    rw [List.set_set]
    unfold spa
    rw [if_pos h, if_pos h, htk, ← List.append_assoc]
    exact pwl_set (v := 1) rfl (by unfold pcode; rw [if_pos (by simp)]) (fun x hx => pcode_congr (mem_snoc_ne hx) Iff.rfl Iff.rfl Iff.rfl)
  · intro h
    unfold spa
    rw [if_neg h, if_neg h, htk, ← List.append_assoc]
    exact pwl_set (v := 2) rfl (by unfold pcode; rw [if_neg hn.1, if_pos (by simp)]) (fun x hx => pcode_congr Iff.rfl (mem_snoc_ne hx) Iff.rfl Iff.rfl)
def tpa (rs : List FRc) (T : Nat) (pl : List Nat) (j : Nat) : Nat → Nat := fun q => if q ∈ pl.take j then T else tOf rs q
theorem tpa_zero (m : Nat) (rs : List FRc) (T : Nat) (pl : List Nat) : ptl m (tpa rs T pl 0) = ptl m (tOf rs) := ptl_congr fun q _ => by simp [tpa]
theorem tpa_step {m : Nat} {rs : List FRc} {T : Nat} {pl : List Nat} {j q : Nat} (hq : pl[j]? = some q) : (ptl m (tpa rs T pl j)).set q (T : Int) = ptl m (tpa rs T pl (j + 1)) := by
  have htk := htk_ hq
  refine ptl_set ?_ fun x hx => ?_
  · unfold tpa
    rw [htk, if_pos (by simp)]
  · unfold tpa
    rw [htk]
    simp only [List.mem_append, List.mem_singleton, hx, or_false]
theorem tpa_end {m : Nat} {rs : List FRc} {T : Nat} {pl : List Nat} (h : ∀ q ∈ pl, q ∉ rpAll rs) : ptl m (tpa rs T pl pl.length) = ptl m (tOf (rs ++ [(T, pl)])) := ptl_congr fun q _ => by
  unfold tpa
  rw [List.take_length]
  by_cases hq : q ∈ pl
  · rw [if_pos hq, tOf_snoc (h q hq), if_pos hq]
  · rw [if_neg hq, tOf_snoc_old hq]
theorem pwl_nil (e l a : Nat) : pwl (sNew e l a []) = List.replicate e 0 := by
  apply List.ext_getElem?
  intro q
  by_cases h : q < e
  · rw [pwl_at (S := sNew e l a []) h, List.getElem?_replicate, if_pos h]
    rfl
  · rw [List.getElem?_eq_none (by rw [pwl_length]; show e ≤ q; omega), List.getElem?_eq_none (by simp; omega)]
theorem ptl_nil (e : Nat) : ptl e (tOf []) = List.replicate e 0 := by
  apply List.ext_getElem?
  intro q
  by_cases h : q < e
  · rw [ptl_at h, List.getElem?_replicate, if_pos h]
    rfl
  · rw [List.getElem?_eq_none (by rw [ptl_length]; omega), List.getElem?_eq_none (by simp; omega)]
/-- At first. -/
theorem tw_new {e l o : Nat} {rs : List FRc} (h : SpRight rs e) (hw : (sNew e l o rs).OK) : TW (sNew e l o rs) (tOf rs) := by
  obtain ⟨q1, q2, q3⟩ := of_spright h
  have hmw : ∀ r ∈ wNew o rs, r ∈ rs ∧ o < r.1 := fun r h => by
    obtain ⟨h1, h2⟩ := List.mem_filter.1 h
    simp at h2
    exact ⟨h1, h2⟩
  exact ⟨rfl, ⟨fun r hr => q1 r (hmw r hr).1, q2.filter _, hw.hn⟩, fun r hr q hq => tOf_mem q3 (hmw r hr).1 hq⟩
/-- It stays so. -/
theorem TW.more {S S' : Sp} {T : Nat → Nat} (h : TW S T) (hw : S'.wait = S.wait) (hh : S'.hd = S.hd) (hf : S.fin ≤ S'.fin) : TW S' T := by
  obtain ⟨h1, ⟨q1, q2, q3⟩, h3⟩ := h
  refine ⟨by rw [hw, hh]; exact h1, ⟨fun r hr => ?_, by rw [hw]; exact q2, by rw [hw]; exact q3⟩, by rw [hw]; exact h3⟩
  rw [hw] at hr
  obtain ⟨a, b, c⟩ := q1 r hr
  exact ⟨a, b, fun p hp => ⟨(c p hp).1, by have := (c p hp).2; omega⟩⟩
end Go.Proofs.Ythijobbhpbklmaa

/- SpacePlays: the reference's Give and Take, by hand. -/
namespace Go.Proofs.Ythijobbhpbklmaa
open Go.RowKit
set_option linter.unusedVariables false
set_option linter.unusedSimpArgs false

set_option maxRecDepth 100000 in
set_option maxHeartbeats 1000000 in
/-- Give -/
theorem rgive_any (w : World) (ok : Nat → Prop) (S : Sp) (hw : S.OK) (v1 : Value) (A2 : Option Addr) (n2 c2 : Nat) (m : Int) (h : IR w ok .i64 v1 (pwl S)) (p : Nat) (hp : p < 4294967296) :
    Calls Try.prog 47 #[.agg #[v1, .slice A2 n2 c2, .int .i64 m], .int .u32 (p : Int)] w fun e w' => ∃ v', e = .returned (.tuple #[.agg #[v', .slice A2 n2 c2, .int .i64 m], .int .i64 (S.give p).2]) ∧ IR w' (fun g => ok g ∨ w.heap.size ≤ g) .i64 v' (pwl (S.give p).1) ∧ Below w.heap.size w w' := by
  have e2 := hw.e2
  have e3 := hw.e3
  obtain ⟨A, c, rfl⟩ := h.sl
  have y0 : ((w.alloc (.cells #[.slice A (pwl S).length c, .slice A2 n2 c2, .int .i64 m] 77)).alloc (.cells #[.slice none 0 0, .slice none 0 0, .int .i64 0] 77)).heap[w.heap.size]? = some (.cells #[.slice A (pwl S).length c, .slice A2 n2 c2, .int .i64 m] 77 (0, 0)) := heap_alloc2_old w _ _
  have y1 : ((w.alloc (.cells #[.slice A (pwl S).length c, .slice A2 n2 c2, .int .i64 m] 77)).alloc (.cells #[.slice none 0 0, .slice none 0 0, .int .i64 0] 77)).heap[w.heap.size + 1]? = some (.cells #[.slice none 0 0, .slice none 0 0, .int .i64 0] 77 (0, 0)) := heap_alloc2_new w _ _
  have hB2 : Below w.heap.size w ((w.alloc (.cells #[.slice A (pwl S).length c, .slice A2 n2 c2, .int .i64 m] 77)).alloc (.cells #[.slice none 0 0, .slice none 0 0, .int .i64 0] 77)) := ((Below.refl _ _).alloc (Nat.le_refl _) _).alloc (by simp) _
  have h2 := h.below hB2
  have hz2 : w.heap.size + 2 = ((w.alloc (.cells #[.slice A (pwl S).length c, .slice A2 n2 c2, .int .i64 m] 77)).alloc (.cells #[.slice none 0 0, .slice none 0 0, .int .i64 0] 77)).heap.size := by simp
  have hZ2 : w.heap.size + 2 ≤ ((w.alloc (.cells #[.slice A (pwl S).length c, .slice A2 n2 c2, .int .i64 m] 77)).alloc (.cells #[.slice none 0 0, .slice none 0 0, .int .i64 0] 77)).heap.size := by omega
  have hlen := pwl_length S
  rw [hlen] at h h2 y0 y1 hB2 hZ2
  rw [hlen]
  clear hz2
  by_cases hno : p < 2 ∨ S.fin ≤ p
  · have hg : S.give p = (S, 1) := give_no (by rcases hno with h | h; exact .inl h; exact .inr (.inl h))
    rw [hg]
    have HH := Lib.hid h
    clear h2 hZ2 y0 y1 hB2 h
    by_cases c1 : p < 2
    · have d1 : decide (p < 2) = true := decide_eq_true c1
      have d1' : decide ((p : Int) < 2) = true := decide_eq_true (by omega)
      go_enter Try.func47, Try.ntmps47
      go_wp2_with fail
      refine bodyPost_ret (results_ct rfl _ _ (w.heap.size + 1) _ _ (0, 0) _ rfl (heap_alloc2_new w _ _) Try.underlying77 rfl (by kernel_rfl)) rfl ?_
      exact ⟨_, rfl, (HH.out.below (((Below.refl _ _).alloc (Nat.le_refl _) _).alloc (by simp) _)).more fun g hg => .inl hg, ((Below.refl _ _).alloc (Nat.le_refl _) _).alloc (by simp) _⟩
    · have d1 : decide (p < 2) = false := decide_eq_false c1
      have d1' : decide ((p : Int) < 2) = false := decide_eq_false (by omega)
      have d2 : decide (S.fin ≤ p) = true := decide_eq_true (by omega)
      have d2' : decide ((S.fin : Int) ≤ (p : Int)) = true := decide_eq_true (by omega)
      go_enter Try.func47, Try.ntmps47
      go_wp2_with fail
      refine bodyPost_ret (results_ct rfl _ _ (w.heap.size + 1) _ _ (0, 0) _ rfl (heap_alloc2_new w _ _) Try.underlying77 rfl (by kernel_rfl)) rfl ?_
      exact ⟨_, rfl, (HH.out.below (((Below.refl _ _).alloc (Nat.le_refl _) _).alloc (by simp) _)).more fun g hg => .inl hg, ((Below.refl _ _).alloc (Nat.le_refl _) _).alloc (by simp) _⟩
  · have d1 : decide (p < 2) = false := decide_eq_false (by omega)
    have d1' : decide ((p : Int) < 2) = false := decide_eq_false (by omega)
    have d2 : decide (S.fin ≤ p) = false := decide_eq_false (by omega)
    have d2' : decide ((S.fin : Int) ≤ (p : Int)) = false := decide_eq_false (by omega)
    have hpn : p < S.fin := by omega
    have hgc := give_cases hw p (by omega) hpn
    obtain ⟨ad, rfl, hcp⟩ := h2.at_ (pwl_at (S := S) (q := p) hpn)
    obtain ⟨cd, hcd⟩ : ∃ cd, pcode S p = cd := ⟨_, rfl⟩
    rw [hcd] at hgc hcp
    have hend : ∀ (x : Int) (w3 : World) (v' : Value), RowKit.Below (w.heap.size + 2) ((w.alloc (.cells #[.slice (some ad) S.fin c, .slice A2 n2 c2, .int .i64 m] 77)).alloc (.cells #[.slice none 0 0, .slice none 0 0, .int .i64 0] 77)) w3 → w3.heap[w.heap.size + 1]? = some (.cells #[.slice none 0 0, .slice none 0 0, .int .i64 0] 77 (0, 0)) ∧ Below w.heap.size w w3 := fun x w3 v' hb => ⟨blk_below y1 hb (by omega), hB2.trans (hb.mono (by omega))⟩
    have HY := Lib.hid hend
    have H2 := Lib.hid h2
    have HH := Lib.hid h
    clear h2 y0 y1 hend h hcd hno
    rcases hgc with ⟨e0, g2, hset⟩ | ⟨e0, g2, hset⟩ | ⟨e0, e1, hg⟩
    · subst e0
      have HST := Lib.hid hset
      rw [g2]
      clear hset
      go_enter Try.func47, Try.ntmps47
      go_wp2_with fail
      refine (rwith_any _ ok _ A2 n2 c2 (pwl S) m H2.out (by omega) p (by omega) 4).mono ?_
      rintro x w3 ⟨v3, rfl, hi3, hb3⟩
      obtain ⟨x1, hb⟩ := HY.out 4 w3 v3 (hb3.mono hZ2)
      obtain ⟨A3, c3, rfl⟩ := hi3.sl
      rw [List.length_set, hlen] at hi3 ⊢
      have q0 := blk_cell x1 0
      have q1 := blk_cell x1 1
      have q2 := blk_cell x1 2
      have f0 := blk_frozen x1 0
      have f1 := blk_frozen x1 1
      have f2 := blk_frozen x1 2
      have X1 := Lib.hid (blk_set3 x1 (.slice A3 S.fin c3) (.slice A2 n2 c2) (.int .i64 m))
      have XB := Lib.hid (below_set3 hb (show w.heap.size ≤ w.heap.size + 1 by omega) (.slice A3 S.fin c3) (.slice A2 n2 c2) (.int .i64 m))
      have HI3 := Lib.hid hi3
      have hl3 := hb3.size
      clear hi3 hb3 hb x1
      go_wp2_with fail
      refine bodyPost_ret (results_ct rfl _ _ (w.heap.size + 1) _ _ (0, 0) _ rfl X1.out Try.underlying77 rfl (by kernel_rfl)) rfl ?_
      refine ⟨_, rfl, ?_, XB.out⟩
      rw [← HST.out]
      refine HI3.out.keep (by simp) fun k hk ho => ⟨?_, .inr (by omega)⟩
      exact heap_set3 _ (by omega) _ _ _
    · subst e0
      have HST := Lib.hid hset
      rw [g2]
      clear hset
      go_enter Try.func47, Try.ntmps47
      go_wp2_with fail
      refine (rwith_any _ ok _ A2 n2 c2 (pwl S) m H2.out (by omega) p (by omega) 1).mono ?_
      rintro x w3 ⟨v3, rfl, hi3, hb3⟩
      obtain ⟨x1, hb⟩ := HY.out 1 w3 v3 (hb3.mono hZ2)
      obtain ⟨A3, c3, rfl⟩ := hi3.sl
      rw [List.length_set, hlen] at hi3 ⊢
      have q0 := blk_cell x1 0
      have q1 := blk_cell x1 1
      have q2 := blk_cell x1 2
      have f0 := blk_frozen x1 0
      have f1 := blk_frozen x1 1
      have f2 := blk_frozen x1 2
      have X1 := Lib.hid (blk_set3 x1 (.slice A3 S.fin c3) (.slice A2 n2 c2) (.int .i64 m))
      have XB := Lib.hid (below_set3 hb (show w.heap.size ≤ w.heap.size + 1 by omega) (.slice A3 S.fin c3) (.slice A2 n2 c2) (.int .i64 m))
      have HI3 := Lib.hid hi3
      have hl3 := hb3.size
      clear hi3 hb3 hb x1
      go_wp2_with fail
      refine bodyPost_ret (results_ct rfl _ _ (w.heap.size + 1) _ _ (0, 0) _ rfl X1.out Try.underlying77 rfl (by kernel_rfl)) rfl ?_
      refine ⟨_, rfl, ?_, XB.out⟩
      rw [← HST.out]
      refine HI3.out.keep (by simp) fun k hk ho => ⟨?_, .inr (by omega)⟩
      exact heap_set3 _ (by omega) _ _ _
    · rw [hg]
      have f0 : ((cd : Int) == 0) = false := by simp [e0]
      have f3 : ((cd : Int) == 3) = false := by simp; omega
      go_enter Try.func47, Try.ntmps47
      go_wp2_with fail
      refine bodyPost_ret (results_ct rfl _ _ (w.heap.size + 1) _ _ (0, 0) _ rfl (heap_alloc2_new w _ _) Try.underlying77 rfl (by kernel_rfl)) rfl ?_
      exact ⟨_, rfl, (HH.out.below (((Below.refl _ _).alloc (Nat.le_refl _) _).alloc (by simp) _)).more fun g hg => .inl hg, ((Below.refl _ _).alloc (Nat.le_refl _) _).alloc (by simp) _⟩
end Go.Proofs.Ythijobbhpbklmaa

/- SpacePlays: the reference's Take, by hand. -/
namespace Go.Proofs.Ythijobbhpbklmaa
open Go.RowKit
set_option linter.unusedVariables false
set_option linter.unusedSimpArgs false

theorem own_grown_ {w w' : World} {base base' n n' : Nat} {e e' : TypeId} {size size' : Nat} {v v' : Value} {xs xs' : List Value} (h : w.ownsRow base e size v n xs) (o : w.ownsRow base' e' size' v' n' xs') (hne : e' ≠ e) (hg : w.grownBy w' v'.ownBlock) : w'.ownsRow base e size v n xs :=
  own_move_ h fun g C _ hC => hg.block g (blk_lt hC) (own_ne o hC hne)
/-- The two boxes of a call. -/
def Tk (w W : World) (C : Array Value) : Prop := Below w.heap.size w W ∧ W.heap[w.heap.size]? = some (.cells C 77 (0, 0)) ∧ W.heap[w.heap.size + 1]? = some (.cells #[.slice none 0 0, .slice none 0 0, .int .i64 0] 77 (0, 0))
section
variable {w W W' : World} {C : Array Value} {e : TypeId} {n : Nat} {v : Value} {xs : List Value}
theorem Tk.grown (h : Tk w W C) (o : W.ownsRow w.heap.size e 1 v n xs) (hne : e ≠ 77) (hg : W.grownBy W' v.ownBlock) : Tk w W' C :=
  ⟨h.1.grown hg h.1.size (fun k hk => own_base o k hk), blk_grown h.2.1 hg (own_ne o h.2.1 hne), blk_grown h.2.2 hg (own_ne o h.2.2 hne)⟩
theorem Tk.alloc (h : Tk w W C) (o : Obj) : Tk w (W.alloc o) C := ⟨h.1.alloc h.1.size _, blk_alloc h.2.1 _, blk_alloc h.2.2 _⟩
theorem Tk.set0 {a b c : Value} (h : Tk w W #[a, b, c]) (x : Value) : Tk w (W.setCell ⟨w.heap.size, 0, none⟩ x) #[x, b, c] :=
  ⟨h.1.setCell (Nat.le_refl _) _, by simpa using blk_set h.2.1 0 x, blk_far h.2.2 (by simp) _⟩
theorem Tk.set1 {a b c : Value} (h : Tk w W #[a, b, c]) (x : Value) : Tk w (W.setCell ⟨w.heap.size, 1, none⟩ x) #[a, x, c] :=
  ⟨h.1.setCell (Nat.le_refl _) _, by simpa using blk_set h.2.1 1 x, blk_far h.2.2 (by simp) _⟩
theorem Tk.own (h : Tk w W C) (o : W.ownsRow w.heap.size e 1 v n xs) (hne : e ≠ 77) (i : Nat) (x : Value) : (W.setCell ⟨w.heap.size, i, none⟩ x).ownsRow w.heap.size e 1 v n xs := own_setCell o (own_ne o h.2.1 hne) x
theorem Tk.cells {a b c : Value} (h : Tk w W #[a, b, c]) : W.cell? ⟨w.heap.size, 0, none⟩ = some a ∧ W.cell? ⟨w.heap.size, 1, none⟩ = some b ∧ W.cell? ⟨w.heap.size, 2, none⟩ = some c ∧ W.frozen? ⟨w.heap.size, 0, none⟩ = false ∧ W.frozen? ⟨w.heap.size, 1, none⟩ = false := ⟨blk_cell h.2.1 0, blk_cell h.2.1 1, blk_cell h.2.1 2, blk_frozen h.2.1 0, blk_frozen h.2.1 1⟩
theorem Tk.zeros (h : Tk w W C) : W.cell? ⟨w.heap.size + 1, 0, none⟩ = some (.slice none 0 0) ∧ W.cell? ⟨w.heap.size + 1, 1, none⟩ = some (.slice none 0 0) ∧ W.cell? ⟨w.heap.size + 1, 2, none⟩ = some (.int .i64 0) ∧ W.frozen? ⟨w.heap.size + 1, 0, none⟩ = false ∧ W.frozen? ⟨w.heap.size + 1, 1, none⟩ = false ∧ W.frozen? ⟨w.heap.size + 1, 2, none⟩ = false := ⟨blk_cell h.2.2 0, blk_cell h.2.2 1, blk_cell h.2.2 2, blk_frozen h.2.2 0, blk_frozen h.2.2 1, blk_frozen h.2.2 2⟩
theorem own_alloc_ (o : W.ownsRow w.heap.size e 1 v n xs) (b : Obj) : (W.alloc b).ownsRow w.heap.size e 1 v n xs := own_move_ o fun g C _ hC => Below.heap_alloc W _ g (blk_lt hC)
end
set_option maxRecDepth 100000 in
set_option maxHeartbeats 1000000 in
/-- Take -/
theorem rtake_any (w : World) (ok : Nat → Prop) (S : Sp) (hw : S.OK) (v1 v2 : Value) (T : Nat → Nat) (h1 : IR w ok .i64 v1 (pwl S)) (h2 : IR w ok .u64 v2 (ptl S.fin T)) (hT : T S.fin = 0) :
    Calls Try.prog 45 #[.agg #[v1, v2, .int .i64 (S.lim : Int)]] w fun e w' => ∃ v1' v2', e = .returned (.tuple #[.agg #[v1', v2', .int .i64 (S.lim : Int)], .int .i64 (S.take.2.1 : Int), .int .i64 S.take.2.2]) ∧ IR w' (fun g => ok g ∨ w.heap.size ≤ g) .i64 v1' (pwl S.take.1) ∧ IR w' (fun g => ok g ∨ w.heap.size ≤ g) .u64 v2' (ptl S.take.1.fin T) ∧ Below w.heap.size w w' := by
  have e2 := hw.e2
  have e3 := hw.e3
  obtain ⟨ii, hi0, hz0, hz1, hz2⟩ := info_parts info_int
  obtain ⟨iu, ui0, uz0, uz1, uz2⟩ := info_parts info_u64
  obtain ⟨A, c, rfl⟩ := h1.sl
  obtain ⟨A2, c2, rfl⟩ := h2.sl
  have hlen := pwl_length S
  have hlen2 := ptl_length S.fin T
  rw [hlen] at h1 ⊢
  rw [hlen2] at h2 ⊢
  have y0 : ((w.alloc (.cells #[.slice A S.fin c, .slice A2 S.fin c2, .int .i64 (S.lim : Int)] 77)).alloc (.cells #[.slice none 0 0, .slice none 0 0, .int .i64 0] 77)).heap[w.heap.size]? = some (.cells #[.slice A S.fin c, .slice A2 S.fin c2, .int .i64 (S.lim : Int)] 77 (0, 0)) := heap_alloc2_old w _ _
  have y1 : ((w.alloc (.cells #[.slice A S.fin c, .slice A2 S.fin c2, .int .i64 (S.lim : Int)] 77)).alloc (.cells #[.slice none 0 0, .slice none 0 0, .int .i64 0] 77)).heap[w.heap.size + 1]? = some (.cells #[.slice none 0 0, .slice none 0 0, .int .i64 0] 77 (0, 0)) := heap_alloc2_new w _ _
  have hB2 : Below w.heap.size w ((w.alloc (.cells #[.slice A S.fin c, .slice A2 S.fin c2, .int .i64 (S.lim : Int)] 77)).alloc (.cells #[.slice none 0 0, .slice none 0 0, .int .i64 0] 77)) := ((Below.refl _ _).alloc (Nat.le_refl _) _).alloc (by simp) _
  have hZ2 : w.heap.size + 2 ≤ ((w.alloc (.cells #[.slice A S.fin c, .slice A2 S.fin c2, .int .i64 (S.lim : Int)] 77)).alloc (.cells #[.slice none 0 0, .slice none 0 0, .int .i64 0] 77)).heap.size := by simp
  have k1 := h1.below hB2
  have k2 := h2.below hB2
  have HH1 := Lib.hid h1
  have HH2 := Lib.hid h2
  have HY0 := Lib.hid y0
  have HY1 := Lib.hid y1
  have HB2 := Lib.hid hB2
  have HZ2 := Lib.hid hZ2
  have HK1 := Lib.hid k1
  have HK2 := Lib.hid k2
  clear y0 y1 hB2 hZ2 k1 k2 h1 h2
  go_enter Try.func45, Try.ntmps45
  go_wp2_with fail
  obtain ⟨W2, hW2⟩ : ∃ W2, ((w.alloc (.cells #[.slice A S.fin c, .slice A2 S.fin c2, .int .i64 (S.lim : Int)] 77)).alloc (.cells #[.slice none 0 0, .slice none 0 0, .int .i64 0] 77)) = W2 := ⟨_, rfl⟩
  rw [hW2] at HY0 HY1 HB2 HZ2 HK1 HK2 ⊢
  clear hW2
  have x0 := blk_cell HY0.out 0
  have x1 := blk_cell HY0.out 1
  have x2 := blk_cell HY0.out 2
  have xf0 := blk_frozen HY0.out 0
  have xf1 := blk_frozen HY0.out 1
  go_loopw [5] (fun i wr => ∃ k : Nat, k ≤ S.fin ∧ i = .int .i64 (k : Int) ∧ wr = W2 ∧ Hid (∀ q, q < k → pcode S q ≠ 1)) (fun i _ => S.fin - (intOf i).toNat)
  case atStart => exact ⟨0, Nat.zero_le _, rfl, rfl, Lib.hid (fun q hq => absurd hq (by omega))⟩
  case round =>
    obtain ⟨k, hk, rfl, rfl, HN⟩ := hrel
    by_cases hlt : k < S.fin
    · have d1 : decide ((k : Int) < (S.fin : Int)) = true := decide_eq_true (by omega)
      obtain ⟨ad, rfl, hc⟩ := HK1.out.at_ (pwl_at (S := S) (q := k) hlt)
      by_cases hc1 : pcode S k = 1
      · rw [hc1] at hc
        have hne : S.us ≠ [] := fun h => no_us h k hc1
        obtain ⟨t1, t2, t3, t4, t5⟩ := take_low hw hne
        have hkm : minS S.us = k := by
          rcases Nat.lt_trichotomy (minS S.us) k with h | h | h
          · exact absurd t4 (HN.out _ h)
          · exact h
          · exact absurd hc1 (t3 _ h)
        rw [hkm] at t1 t5
        have HT1 := Lib.hid t1
        have HT5 := Lib.hid t5
        clear t1 t5 t2 t3 t4 hkm hne hc1
        go_wp2_with fail
        refine (rwith_any _ ok _ A2 S.fin c2 (pwl S) S.lim HK1.out (by omega) k (by omega) 3).mono ?_
        rintro x w3 ⟨v3, rfl, hi3, hb3⟩
        obtain ⟨A3, c3, rfl⟩ := hi3.sl
        rw [List.length_set, hlen] at hi3 ⊢
        have z1 := blk_below HY1.out hb3 (blk_lt HY1.out)
        have hb := HB2.out.trans (hb3.mono HB2.out.size)
        have q0 := blk_cell z1 0
        have q1 := blk_cell z1 1
        have q2 := blk_cell z1 2
        have f0 := blk_frozen z1 0
        have f1 := blk_frozen z1 1
        have f2 := blk_frozen z1 2
        have X1 := Lib.hid (blk_set3 z1 (.slice A3 S.fin c3) (.slice A2 S.fin c2) (.int .i64 S.lim))
        have XB := Lib.hid (below_set3 hb (show w.heap.size ≤ w.heap.size + 1 by omega) (.slice A3 S.fin c3) (.slice A2 S.fin c2) (.int .i64 S.lim))
        have HI3 := Lib.hid hi3
        have hl3 := HZ2.out
        have hl4 := hb3.size
        clear hi3 hb3 hb z1 x0 x1 x2 xf0 xf1
        go_wp2_with fail
        refine bodyPost_ret (results_ctu rfl _ _ (w.heap.size + 1) _ _ (0, 0) _ rfl X1.out Try.underlying77 rfl (by kernel_rfl)) rfl ?_
        rw [HT1.out]
        refine ⟨_, _, rfl, ?_, ?_, XB.out⟩
        · rw [← HT5.out]
          refine HI3.out.keep (by simp) fun k hk ho => ⟨heap_set3 _ (by omega) _ _ _, .inr (by omega)⟩
        · exact (HH2.out.below XB.out).more fun g hg => .inl hg
      · have hc2 : ((pcode S k : Int) == 1) = false := by simp; omega
        have HN2 : Hid (∀ q, q < k + 1 → pcode S q ≠ 1) := Lib.hid fun q hq => by
          rcases Nat.lt_or_ge q k with h | h
          · exact HN.out q h
          · obtain rfl : q = k := by omega
            exact hc1
        clear HN hc1
        go_wp2_with fail
        exact ⟨⟨k + 1, by omega, by go_num, trivial, HN2⟩, by simp [intOf]; omega⟩
    · obtain rfl : k = S.fin := by omega
      have d1 : decide ((S.fin : Int) < (S.fin : Int)) = false := decide_eq_false (by omega)
      have he : S.us = [] := by
        apply Classical.byContradiction
        intro hne
        obtain ⟨t1, t2, t3, t4, t5⟩ := take_low hw hne
        exact HN.out _ t2 t4
      by_cases hl : S.lim ≤ S.fin
      · have HT1 : Hid (S.take = (S, 0, 21)) := Lib.hid (by unfold Sp.take; rw [if_pos he, if_pos hl])
        have d2 : decide ((S.lim : Int) ≤ (S.fin : Int)) = true := decide_eq_true (by omega)
        have d2' : decide (S.lim ≤ S.fin) = true := decide_eq_true hl
        have q0 := blk_cell HY1.out 0
        have q1 := blk_cell HY1.out 1
        have q2 := blk_cell HY1.out 2
        have f0 := blk_frozen HY1.out 0
        have f1 := blk_frozen HY1.out 1
        have f2 := blk_frozen HY1.out 2
        have X1 := Lib.hid (blk_set3 HY1.out (.slice A S.fin c) (.slice A2 S.fin c2) (.int .i64 S.lim))
        have XB := Lib.hid (below_set3 HB2.out (show w.heap.size ≤ w.heap.size + 1 by omega) (.slice A S.fin c) (.slice A2 S.fin c2) (.int .i64 S.lim))
        clear he hl
        go_wp2_with fail
        refine bodyPost_ret (results_ctu rfl _ _ (w.heap.size + 1) _ _ (0, 0) _ rfl X1.out Try.underlying77 rfl (by kernel_rfl)) rfl ?_
        rw [HT1.out]
        exact ⟨_, _, rfl, (HH1.out.below XB.out).more fun g hg => .inl hg, (HH2.out.below XB.out).more fun g hg => .inl hg, XB.out⟩
      · have HT1 : Hid (S.take = ({ S with fin := S.fin + 1, fr := S.fr ++ [S.fin] }, S.fin, 0)) := Lib.hid (by unfold Sp.take; rw [if_pos he, if_neg hl])
        have d2 : decide ((S.lim : Int) ≤ (S.fin : Int)) = false := decide_eq_false (by omega)
        have d2' : decide (S.lim ≤ S.fin) = false := decide_eq_false hl
        have HE := Lib.hid he
        have e1 := hw.e1
        have HT : Hid (Tk w wr #[.slice A S.fin c, .slice A2 S.fin c2, .int .i64 S.lim]) := Lib.hid ⟨HB2.out, HY0.out, HY1.out⟩
        have hr1 := HK1.out.reads
        clear he hl xf0 xf1 d2 HK1
        go_wp2_with (first
          | (at_builtin; refine wpList_append_any _ rfl (.tmp 32) (.tmp 34) _ rfl w.heap.size 3 ii _ 1 8 Try.underlying74 hi0 hz0 hz1 hz2 rfl (by omega) (.slice none 0 0) 0 [] rfl (World.ownsRow_nil _ _ _ _) wr.heap.size A S.fin c _ rfl hr1 (ints_one _ _) (by simp only [maxLen]; omega) (by omega) HT.out.1.size ?_; intro v8 w8 hown8 hg8 hat8; obtain ⟨g8, c8, rfl, ho8, hbg8, hne8⟩ := own_fresh hown8 (by omega); have HT8 := Lib.hid (HT.out.grown (World.ownsRow_nil _ w.heap.size 3 1) (by decide) hg8); have HK28 := Lib.hid (HK2.out.below ((Below.refl _ _).grown hg8 (Nat.le_refl _) (fun k hk => by simp [Value.ownBlock] at hk))); obtain ⟨m0, m1, m2, _, _⟩ := HT8.out.cells; have HO8 := Lib.hid ho8; have hr2 := HK28.out.reads; have hs8 := HT8.out.1.size; clear hown8 hg8 hat8 hne8 ho8)
          | (at_builtin; refine wpList_append_any _ rfl (.tmp 36) (.tmp 38) _ rfl w.heap.size 63 iu _ 1 8 Try.underlying75 ui0 uz0 uz1 uz2 rfl (by omega) (.slice none 0 0) 0 [] rfl (World.ownsRow_nil _ _ _ _) _ A2 S.fin c2 _ rfl hr2 (ints_one _ _) (by simp only [maxLen]; omega) (by omega) hs8 ?_; intro v9 w9 hown9 hg9 hat9; obtain ⟨g9, c9, rfl, ho9, hbg9, hne9⟩ := own_fresh hown9 (by omega); have HT9 := Lib.hid (HT8.out.grown (World.ownsRow_nil _ w.heap.size 3 1) (by decide) hg9); have HO89 := Lib.hid (own_move_ HO8.out (fun g C _ hC => hg9.block g (blk_lt hC) (by simp [Value.ownBlock]))); have HO9 := Lib.hid ho9; have hs9 := HT9.out.1.size; clear hown9 hg9 hat9 hne9 ho9 m0 m1 m2 hr2)
          | (at_builtin; refine wpList_append_any _ rfl (.tmp 40) (.tmp 41) _ rfl w.heap.size 3 ii _ 1 8 Try.underlying74 hi0 hz0 hz1 hz2 rfl (by omega) _ S.fin _ rfl (own_alloc_ HO89.out _) _ _ 1 1 [.int .i64 3] rfl (Reads.one _ _ _) (by simp [Value.oneCell']) (by simp only [maxLen]; omega) (by omega) (by simp; omega) ?_; intro v10 w10 hown10 hg10 hat10; obtain ⟨A10, c10, rfl⟩ := own_slice hown10; have HT10 := Lib.hid ((HT9.out.alloc _).grown (own_alloc_ HO89.out _) (by decide) hg10); have HO910 := Lib.hid (own_grown_ (own_alloc_ HO9.out _) (own_alloc_ HO89.out _) (by decide) hg10); have HO10 := Lib.hid hown10; obtain ⟨m0, m1, m2, f0, f1⟩ := HT10.out.cells; clear hown10 hg10 hat10; have HT11 := Lib.hid (HT10.out.set0 (.slice A10 (S.fin + 1) c10)); have HO911 := Lib.hid (HT10.out.own HO910.out (by decide) 0 (.slice A10 (S.fin + 1) c10)); have HO11 := Lib.hid (HT10.out.own HO10.out (by decide) 0 (.slice A10 (S.fin + 1) c10)); have hs10 := HT10.out.1.size)
          | go_loud (at_builtin; refine wpList_append_any _ rfl (.tmp 44) (.tmp 45) _ rfl w.heap.size 63 iu _ 1 8 Try.underlying75 ui0 uz0 uz1 uz2 rfl (by omega) _ S.fin _ rfl (own_alloc_ HO911.out _) (w10.heap.size + 1) _ 1 1 [.int .u64 0] rfl (by have hq := Reads.one (w10.setCell ⟨w.heap.size, 0, none⟩ (.slice A10 (S.fin + 1) c10)) (.int .u64 0) 63; rw [World.size_setCell] at hq; exact hq) (by simp [Value.oneCell']) (by simp only [maxLen]; omega) (by omega) (by simp; omega) ?_; intro v12 w12 hown12 hg12 hat12; obtain ⟨A12, c12, rfl⟩ := own_slice hown12; have HT12 := Lib.hid ((HT11.out.alloc _).grown (own_alloc_ HO911.out _) (by decide) hg12); have HO1112 := Lib.hid (own_grown_ (own_alloc_ HO11.out _) (own_alloc_ HO911.out _) (by decide) hg12); have HO12 := Lib.hid hown12; clear m0 m1 m2 f0 f1 hown12 hg12 hat12; obtain ⟨m0, m1, m2, f0, f1⟩ := HT12.out.cells; obtain ⟨z0, z1, z2, zf0, zf1, zf2⟩ := HT12.out.zeros))
        have HT13 := HT12.out.set1 (.slice A12 (S.fin + 1) c12)
        have HO13 := HT12.out.own HO12.out (by decide) 1 (.slice A12 (S.fin + 1) c12)
        have HO1113 := HT12.out.own HO1112.out (by decide) 1 (.slice A12 (S.fin + 1) c12)
        have X1 := blk_set3 HT13.2.2 (.slice A10 (S.fin + 1) c10) (.slice A12 (S.fin + 1) c12) (.int .i64 S.lim)
        have XB := below_set3 HT13.1 (show w.heap.size ≤ w.heap.size + 1 by omega) (.slice A10 (S.fin + 1) c10) (.slice A12 (S.fin + 1) c12) (.int .i64 S.lim)
        have e10 := own_set3 HO1113 (own_ne HO1113 HT13.2.2 (by decide)) (.slice A10 (S.fin + 1) c10) (.slice A12 (S.fin + 1) c12) (.int .i64 S.lim)
        have e12 := own_set3 HO13 (own_ne HO13 HT13.2.2 (by decide)) (.slice A10 (S.fin + 1) c10) (.slice A12 (S.fin + 1) c12) (.int .i64 S.lim)
        rw [show (pwl S).map (Value.int .i64) ++ [.int .i64 3] = (pwl S ++ [3]).map (Value.int .i64) by simp, take_end hw HE.out] at e10
        rw [show (ptl S.fin T).map (Value.int .u64) ++ [.int .u64 0] = (ptl S.fin T ++ [0]).map (Value.int .u64) by simp, ptl_snoc hT] at e12
        refine bodyPost_ret (results_ctu rfl _ _ (w.heap.size + 1) _ _ (0, 0) _ rfl X1 Try.underlying77 rfl (by kernel_rfl)) rfl ?_
        rw [HT1.out]
        exact ⟨_, _, rfl, (IR.of_own e10).more fun g hg => .inr hg, (IR.of_own e12).more fun g hg => .inr hg, XB⟩
end Go.Proofs.Ythijobbhpbklmaa

/- SpacePlays: the reference's some, by hand. -/
namespace Go.Proofs.Ythijobbhpbklmaa
open Go.RowKit
set_option linter.unusedVariables false
set_option linter.unusedSimpArgs false

theorem info_u32 : (Try.prog.info? 61).map (fun i => (i.zero, i.size, i.bytes)) = some (some (.int .u32 0), 1, 4) := by kernel_rfl
def fP (S : Sp) (T : Nat → Nat) (c t : Nat) (f : Bool) : Nat → Bool := fun q => (pcode S q == c) && (!f || T q == t)
set_option maxRecDepth 100000 in
set_option maxHeartbeats 1000000 in
/-- some -/
theorem rsome_any (w : World) (ok : Nat → Prop) (S : Sp) (hw : S.OK) (v1 v2 : Value) (m : Int) (T : Nat → Nat) (h1 : IR w ok .i64 v1 (pwl S)) (h2 : IR w ok .u64 v2 (ptl S.fin T)) (c t : Nat) (f : Bool) :
    Calls Try.prog 71 #[.agg #[v1, v2, .int .i64 m], .int .i64 (c : Int), .int .u64 (t : Int), .bool f] w fun e w' => ∃ v, e = .returned v ∧ w'.ownsRow w.heap.size 61 1 v (pickP S.fin (fP S T c t f)).length (Pgs (pickP S.fin (fP S T c t f))) ∧ Below w.heap.size w w' := by
  have e2 := hw.e2
  have e3 := hw.e3
  obtain ⟨iu, ui0, uz0, uz1, uz2⟩ := info_parts info_u32
  obtain ⟨A, c1, rfl⟩ := h1.sl
  obtain ⟨A2, c2, rfl⟩ := h2.sl
  have hlen := pwl_length S
  have hlen2 := ptl_length S.fin T
  rw [hlen] at h1 ⊢
  rw [hlen2] at h2 ⊢
  have HH1 := Lib.hid h1
  have HH2 := Lib.hid h2
  clear h1 h2 hlen hlen2
  have HB0 : Hid (Below w.heap.size w (w.alloc (.cells #[.slice A S.fin c1, .slice A2 S.fin c2, .int .i64 m] 77))) := Lib.hid ((Below.refl _ _).alloc (Nat.le_refl _) _)
  have HX0 := Lib.hid (heap_alloc_new w (.cells #[.slice A S.fin c1, .slice A2 S.fin c2, .int .i64 m] 77))
  go_enter Try.func71, Try.ntmps71
  go_wp2_with fail
  obtain ⟨W1, hW1⟩ : ∃ W1, w.alloc (.cells #[.slice A S.fin c1, .slice A2 S.fin c2, .int .i64 m] 77) = W1 := ⟨_, rfl⟩
  rw [hW1] at HB0 HX0 ⊢
  clear hW1
  go_loopw [9, 10] (fun o i wr => ∃ (k : Nat) (v : Value), k ≤ S.fin ∧ o = v ∧ i = .int .i64 (k : Int) ∧ Hid (wr.ownsRow w.heap.size 61 1 v (pickP k (fP S T c t f)).length (Pgs (pickP k (fP S T c t f)))) ∧ Hid (Below w.heap.size w wr) ∧ Hid (wr.heap[w.heap.size]? = some (.cells #[.slice A S.fin c1, .slice A2 S.fin c2, .int .i64 m] 77 (0, 0)))) (fun _ i _ => S.fin - (intOf i).toNat)
  case atStart => exact ⟨0, _, Nat.zero_le _, rfl, rfl, Lib.hid (World.ownsRow_nil _ _ _ _), HB0, HX0⟩
  case round =>
    obtain ⟨k, v, hk, rfl, rfl, HO, HB, HX⟩ := hrel
    have x0 := blk_cell HX.out 0
    have x1 := blk_cell HX.out 1
    have xf0 := blk_frozen HX.out 0
    have hsz := HB.out.size
    by_cases hlt : k < S.fin
    · have d1 : decide ((k : Int) < (S.fin : Int)) = true := decide_eq_true (by omega)
      obtain ⟨ad, rfl, hc⟩ := (HH1.out.below HB.out).at_ (pwl_at (S := S) (q := k) hlt)
      obtain ⟨ad2, rfl, ht⟩ := (HH2.out.below HB.out).at_ (ptl_at (m := S.fin) (T := T) (q := k) hlt)
      have hst := pickP_succ k (fP S T c t f)
      have hln := pickP_len k (fP S T c t f)
      obtain ⟨fv, hfv⟩ : ∃ fv, fP S T c t f k = fv := ⟨_, rfl⟩
      have hfv2 : fv = ((pcode S k == c) && (!f || T k == t)) := hfv.symm
      rw [hfv] at hst
      obtain ⟨L, hL⟩ : ∃ L, pickP k (fP S T c t f) = L := ⟨_, rfl⟩
      rw [hL] at HO hst hln
      have HST := Lib.hid hst
      clear hst hL hfv
      obtain ⟨n, hn⟩ : ∃ n, L.length = n := ⟨_, rfl⟩
      rw [hn] at HO hln
      obtain ⟨Av, cv, rfl⟩ := own_slice HO.out
      have HNL := Lib.hid hn
      clear hn
      obtain ⟨cd, hcd⟩ : ∃ cd, pcode S k = cd := ⟨_, rfl⟩
      obtain ⟨tk, htk⟩ : ∃ tk, T k = tk := ⟨_, rfl⟩
      rw [hcd, htk] at hfv2
      rw [hcd] at hc
      rw [htk] at ht
      clear hcd htk
      have hkw : IntKind.u32.wrap (k : Int) = (k : Int) := by unfold IntKind.wrap; simp [IntKind.signed, IntKind.bits]; omega
      cases fv with
      | false =>
        have HST2 : Hid (pickP (k + 1) (fP S T c t f) = L) := Lib.hid (by rw [HST.out]; simp)
        have e1 : ((cd : Int) == (c : Int)) = (cd == c) := by rw [Bool.eq_iff_iff, beq_iff_eq, beq_iff_eq]; omega
        have e2 : ((tk : Int) == (t : Int)) = (tk == t) := by rw [Bool.eq_iff_iff, beq_iff_eq, beq_iff_eq]; omega
        by_cases a1 : cd = c
        · have b1 : (cd == c) = true := by simp [a1]
          rw [b1] at e1 hfv2
          cases f with
          | false => simp at hfv2
          | true =>
            have b2 : (tk == t) = false := by simpa using hfv2.symm
            rw [b2] at e2
            clear hfv2 a1
            go_wp2_with fail
            exact ⟨⟨k + 1, _, by omega, rfl, by go_num, by rw [HST2.out, HNL.out]; exact HO, HB, HX⟩, by simp [intOf]; omega⟩
        · have b1 : (cd == c) = false := by simp [a1]
          rw [b1] at e1
          clear hfv2 a1
          go_wp2_with fail
          exact ⟨⟨k + 1, _, by omega, rfl, by go_num, by rw [HST2.out, HNL.out]; exact HO, HB, HX⟩, by simp [intOf]; omega⟩
      | true =>
        have HST2 : Hid (pickP (k + 1) (fP S T c t f) = L ++ [k]) := Lib.hid (by rw [HST.out]; simp)
        have hfv3 : ((cd == c) && (!f || tk == t)) = true := hfv2.symm
        rw [Bool.and_eq_true, beq_iff_eq] at hfv3
        obtain ⟨rfl, a2⟩ := hfv3
        have b1 : ((cd : Int) == (cd : Int)) = true := by simp
        have hstep : ∀ (v8 : Value) (w8 : World), w8.ownsRow w.heap.size 61 1 v8 (n + 1) (Pgs L ++ [.int .u32 (k : Int)]) → (wr.alloc (.cells #[.int .u32 (k : Int)] 61)).grownBy w8 (Value.slice Av n cv).ownBlock → Hid (w8.ownsRow w.heap.size 61 1 v8 (pickP (k + 1) (fP S T cd t f)).length (Pgs (pickP (k + 1) (fP S T cd t f)))) ∧ Hid (Below w.heap.size w w8) ∧ Hid (w8.heap[w.heap.size]? = some (.cells #[.slice (some ad) S.fin c1, .slice (some ad2) S.fin c2, .int .i64 m] 77 (0, 0))) := fun v8 w8 ho8 hg8 => by
          have hoa : (wr.alloc (.cells #[.int .u32 (k : Int)] 61)).ownsRow w.heap.size 61 1 (.slice Av n cv) n (Pgs L) := own_alloc_ HO.out _
          refine ⟨Lib.hid ?_, Lib.hid ((HB.out.alloc hsz _).grown hg8 (by simp; omega) (fun q hq => own_base hoa q hq)), Lib.hid (blk_grown (blk_alloc HX.out _) hg8 (own_ne hoa (blk_alloc HX.out _) (by decide)))⟩
          rw [HST2.out, List.length_append, HNL.out, Pgs_snoc]
          exact ho8
        have HSTEP := Lib.hid hstep
        clear hstep hfv2
        cases f with
        | false =>
          go_wp2_with (first | (at_builtin; refine wpList_append_any _ rfl (.tmp 38) (.tmp 41) _ rfl w.heap.size 61 iu _ 1 4 Try.underlying82 ui0 uz0 uz1 uz2 rfl (by omega) _ n _ rfl (own_alloc_ HO.out _) (wr.heap.size + 1) _ 1 1 [.int .u32 (k : Int)] rfl (Reads.one _ _ _) (by simp [Value.oneCell']) (by simp only [maxLen]; omega) (by omega) (by simp; omega) ?_; intro v8 w8 hown8 hg8 hat8; obtain ⟨q1, q2, q3⟩ := HSTEP.out v8 w8 hown8 hg8; clear hown8 hg8 hat8))
          exact ⟨⟨k + 1, _, by omega, rfl, by go_num, q1, q2, q3⟩, by simp [intOf]; omega⟩
        | true =>
          have b2 : tk = t := by simpa using a2
          subst b2
          have b3 : ((tk : Int) == (tk : Int)) = true := by simp
          go_wp2_with (first | (at_builtin; refine wpList_append_any _ rfl (.tmp 38) (.tmp 41) _ rfl w.heap.size 61 iu _ 1 4 Try.underlying82 ui0 uz0 uz1 uz2 rfl (by omega) _ n _ rfl (own_alloc_ HO.out _) (wr.heap.size + 1) _ 1 1 [.int .u32 (k : Int)] rfl (Reads.one _ _ _) (by simp [Value.oneCell']) (by simp only [maxLen]; omega) (by omega) (by simp; omega) ?_; intro v8 w8 hown8 hg8 hat8; obtain ⟨q1, q2, q3⟩ := HSTEP.out v8 w8 hown8 hg8; clear hown8 hg8 hat8))
          exact ⟨⟨k + 1, _, by omega, rfl, by go_num, q1, q2, q3⟩, by simp [intOf]; omega⟩
    · obtain rfl : k = S.fin := by omega
      have d1 : decide ((S.fin : Int) < (S.fin : Int)) = false := decide_eq_false (by omega)
      go_wp2_with fail
      go_ret
      exact ⟨_, rfl, HO.out, HB.out⟩
end Go.Proofs.Ythijobbhpbklmaa
