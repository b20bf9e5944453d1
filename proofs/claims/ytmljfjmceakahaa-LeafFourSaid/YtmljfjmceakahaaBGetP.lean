/- branch: what a page tells, plain laws. -/
import Derived.Test.YtmljfjmceakahaaBMisc
namespace Go.Proofs.Ytmljfjmceakahaa
open Go.RowKit
set_option linter.unusedVariables false
set_option linter.unusedSimpArgs false

def bAt (l : List UInt8) (k : Nat) : Nat := be ((l.drop (4 + 2 * k)).take 2)
/-- The entry that stands at the head of bytes; the error is 0 if there is one. -/
def bE1 (m : List UInt8) : Int := takeE m 0 1
def bLong (m : List UInt8) : Nat := be (takeL m 0 1)
def bM1 (m : List UInt8) : List UInt8 := takeR m 0 1
def bKey (m : List UInt8) : List UInt8 := takeL (bM1 m) (bE1 m) (bLong m)
def bM2 (m : List UInt8) : List UInt8 := takeR (bM1 m) (bE1 m) (bLong m)
def bE2 (m : List UInt8) : Int := takeE (bM1 m) (bE1 m) (bLong m)
def bChild (m : List UInt8) : Nat := be (takeL (bM2 m) (bE2 m) 4)
def bE3 (m : List UInt8) : Int := takeE (bM2 m) (bE2 m) 4
def bStep (l : List UInt8) (k : Nat) : Option (List UInt8 × Nat) :=
  if 4 + 2 * k + 2 ≤ l.length ∧ bAt l k ≤ l.length ∧ bE3 (l.drop (bAt l k)) = 0 then some (bKey (l.drop (bAt l k)), bChild (l.drop (bAt l k))) else none
def bScan (l : List UInt8) : Nat → Option (List (List UInt8 × Nat))
  | 0 => some []
  | k + 1 => (bScan l k).bind fun es => (bStep l k).map fun e => es ++ [e]
theorem bScan_yes {l : List UInt8} {k : Nat} {es : List (List UInt8 × Nat)} {e : List UInt8 × Nat} (h : bScan l k = some es) (he : bStep l k = some e) : bScan l (k + 1) = some (es ++ [e]) := by simp [bScan, h, he]
theorem bScan_no {l : List UInt8} {k : Nat} (he : bStep l k = none) : bScan l (k + 1) = none := by
  unfold bScan
  rw [he]
  cases bScan l k <;> rfl
theorem bScan_mono {l : List UInt8} {k : Nat} : ∀ {d : Nat}, bScan l k = none → bScan l (k + d) = none
  | 0, h => h
  | d + 1, h => by
    have := bScan_mono (d := d) h
    show bScan l (k + d + 1) = none
    unfold bScan
    rw [this]
    rfl
theorem bScan_len {l : List UInt8} : ∀ {k : Nat} {es : List (List UInt8 × Nat)}, bScan l k = some es → es.length = k
  | 0, es, h => by cases h; rfl
  | k + 1, es, h => by
    unfold bScan at h
    rcases h1 : bScan l k with _ | es1
    · rw [h1] at h; cases h
    · rw [h1] at h
      rcases h2 : bStep l k with _ | e
      · rw [h2] at h; cases h
      · rw [h2] at h
        cases h
        simp [bScan_len h1]

theorem be_numB (x sz : Nat) (h : x < 256 ^ sz) : be (numB x sz) = x := by
  have key : ∀ k, k ≤ sz → be ((numB x sz).take k) = x / 256 ^ (sz - k) := by
    intro k
    induction k with
    | zero => intro _; simp [be, Nat.div_eq_of_lt h]
    | succ k ih =>
      intro hk
      rw [numB_take _ _ _ (by omega), be_snoc, ih (by omega)]
      have e1 : 2 ^ (8 * (sz - 1 - k)) = 256 ^ (sz - (k + 1)) := by rw [Nat.pow_mul, show sz - 1 - k = sz - (k + 1) by omega]
      have e2 : 256 ^ (sz - k) = 256 ^ (sz - (k + 1)) * 256 := by rw [← Nat.pow_succ]; congr 1; omega
      rw [e1, e2, ← Nat.div_div_eq_div_mul]
      simp only [UInt8.toNat_ofNat']
      omega
  have := key sz (Nat.le_refl _)
  rw [List.take_of_length_le (by rw [numB_length]; exact Nat.le_refl _)] at this
  simpa using this

/-- A cell at the head of bytes tells its entry. -/
theorem cell_head (k : List UInt8) (x : Nat) (t m : List UInt8) (hm : m = bCell (k, x) ++ t) (hk : k.length < 256) (hx : x < 4294967296) : bE3 m = 0 ∧ bKey m = k ∧ bChild m = x := by
  have hm' : m = numB k.length 1 ++ (k ++ (numB x 4 ++ t)) := by rw [hm]; simp [bCell]
  have n1 : (numB k.length 1).length = 1 := numB_length _ _
  have n4 : (numB x 4).length = 4 := numB_length _ _
  obtain ⟨a1, a2, a3⟩ := take_nn m 1 (by rw [hm', List.length_append, n1]; omega)
  have h1 : bE1 m = 0 := a3
  have h2 : bLong m = k.length := by
    unfold bLong
    rw [a1, hm', List.take_append_of_le_length (by omega), List.take_of_length_le (by omega), be_numB _ _ (by simpa using hk)]
  have h3 : bM1 m = k ++ (numB x 4 ++ t) := by
    unfold bM1
    rw [a2, hm', List.drop_append_of_le_length (by omega), List.drop_of_length_le (by omega), List.nil_append]
  obtain ⟨b1, b2, b3⟩ := take_nn (bM1 m) k.length (by rw [h3, List.length_append]; omega)
  have h4 : bKey m = k := by
    unfold bKey
    rw [h1, h2, b1, h3, List.take_append_of_le_length (by omega), List.take_of_length_le (by omega)]
  have h5 : bE2 m = 0 := by unfold bE2; rw [h1, h2, b3]
  have h6 : bM2 m = numB x 4 ++ t := by
    unfold bM2
    rw [h1, h2, b2, h3, List.drop_append_of_le_length (by omega), List.drop_of_length_le (by omega), List.nil_append]
  obtain ⟨c1, c2, c3⟩ := take_nn (bM2 m) 4 (by rw [h6, List.length_append]; omega)
  refine ⟨by unfold bE3; rw [h5, c3], h4, ?_⟩
  unfold bChild
  rw [h5, c1, h6, List.take_append_of_le_length (by omega), List.take_of_length_le (by omega), be_numB _ _ (by simpa using hx)]

theorem bCells_take (es : List (List UInt8 × Nat)) (k : Nat) : ∃ t, bCells es = t ++ bCells (es.take k) := by
  refine ⟨bCells (es.drop k), ?_⟩
  unfold bCells
  rw [← List.flatten_append, ← List.reverse_append, ← List.map_append, List.take_append_drop]

theorem bPl_take (es : List (List UInt8 × Nat)) (size : Nat) : ∀ (d k : Nat), ∃ t, bPl es size (k + d) = bPl es size k ++ t
  | 0, k => ⟨[], by simp⟩
  | d + 1, k => by
    obtain ⟨t, ht⟩ := bPl_take es size d k
    exact ⟨t ++ numB (size - (bCells (es.take (k + d + 1))).length) 2, by rw [show k + (d + 1) = (k + d) + 1 from rfl, bPl_succ, ht, List.append_assoc]⟩

theorem bCells_ge (es : List (List UInt8 × Nat)) : es.length * 5 ≤ (bCells es).length := by
  unfold bCells
  rw [List.length_flatten, List.map_reverse, List.sum_reverse, List.map_map]
  induction es with
  | nil => simp
  | cons e es ih => simp [bCell_length] at ih ⊢; omega

/-- What stands in a page. -/
structure BPage (es : List (List UInt8 × Nat)) (l : List UInt8) : Prop where
  right : BRight es (l.length : Int)
  fits : bFill es ≤ l.length
  page : bPut es l.length = l

theorem BPage.count {es : List (List UInt8 × Nat)} {l : List UInt8} (h : BPage es l) : be ((l.drop 2).take 2) = es.length := by
  have hl := h.right
  have hn : es.length * 7 + 4 ≤ l.length := by
    have h1 := h.fits
    have h2 := bCells_length es
    have := bCells_ge es
    omega
  have h4096 : l.length ≤ 4096 := by have := hl.2.1; omega
  obtain ⟨t, ht⟩ := bPl_take es l.length es.length 0
  rw [Nat.zero_add] at ht
  have h0 : bPl es l.length 0 = [2, 0] ++ numB es.length 2 := by simp [bPl]; rfl
  rw [← h.page]
  unfold bPut
  rw [ht, h0]
  simp only [List.append_assoc, List.cons_append, List.nil_append, List.drop_succ_cons, List.drop_zero]
  rw [List.take_append_of_le_length (by rw [numB_length]; omega), List.take_of_length_le (by rw [numB_length]; omega), be_numB _ _ (by omega)]

theorem BPage.step {es : List (List UInt8 × Nat)} {l : List UInt8} (h : BPage es l) (hes : ∀ e ∈ es, e.2 < 4294967296) {k : Nat} {e : List UInt8 × Nat} (he : es[k]? = some e) : bStep l k = some e := by
  have hk := (List.getElem?_eq_some_iff.1 he).1
  have h4096 : l.length ≤ 4096 := by have := h.right.2.1; omega
  have hf := h.fits
  have hcl := bCells_length es
  have hct := bCells_length (es.take (k + 1))
  have hft := bFill_le es (k + 1)
  rw [List.length_take, Nat.min_eq_left (by omega)] at hct
  have hpl := bPl_length es l.length k
  -- the place
  have hat : (l.drop (4 + 2 * k)).take 2 = numB (l.length - (bCells (es.take (k + 1))).length) 2 := by
    obtain ⟨t, ht⟩ := bPl_take es l.length (es.length - (k + 1)) (k + 1)
    rw [show k + 1 + (es.length - (k + 1)) = es.length by omega, bPl_succ] at ht
    have : l = bPl es l.length k ++ (numB (l.length - (bCells (es.take (k + 1))).length) 2 ++ (t ++ (List.replicate (l.length - bFill es) 0 ++ bCells es))) := by
      conv => lhs; rw [← h.page]
      unfold bPut
      rw [ht]
      simp only [List.append_assoc]
    conv => lhs; rw [this]
    rw [List.drop_append_of_le_length (by omega), List.drop_of_length_le (by omega), List.nil_append, List.take_append_of_le_length (by rw [numB_length]; omega), List.take_of_length_le (by rw [numB_length]; omega)]
  have hA : bAt l k = l.length - (bCells (es.take (k + 1))).length := by
    unfold bAt
    rw [hat, be_numB _ _ (by omega)]
  -- the cell
  have hd : l.drop (bAt l k) = bCell e ++ bCells (es.take k) := by
    obtain ⟨t, ht⟩ := bCells_take es (k + 1)
    have hl2 : l = (bPl es l.length es.length ++ List.replicate (l.length - bFill es) 0 ++ t) ++ bCells (es.take (k + 1)) := by
      conv => lhs; rw [← h.page]
      unfold bPut
      conv => lhs; rw [ht]
      simp only [List.append_assoc]
    have hlen : (bPl es l.length es.length ++ List.replicate (l.length - bFill es) 0 ++ t).length = bAt l k := by
      have := congrArg List.length hl2
      rw [List.length_append] at this
      omega
    obtain ⟨p, hp⟩ : ∃ p, bAt l k = p := ⟨_, rfl⟩
    rw [hp] at hlen ⊢
    conv => lhs; rw [hl2]
    rw [List.drop_append_of_le_length (by omega), List.drop_of_length_le (by omega), List.nil_append, take_succ_some he, bCells_snoc]
  obtain ⟨e1, e2⟩ := e
  have hk96 := (h.right.2.2.2.2 k hk e1 e2 he).2.1
  obtain ⟨c1, c2, c3⟩ := cell_head e1 e2 _ _ hd (by omega) (hes _ (List.mem_of_getElem? he))
  have hh : 4 + 2 * k + 2 ≤ l.length ∧ bAt l k ≤ l.length ∧ bE3 (l.drop (bAt l k)) = 0 := ⟨by omega, by omega, c1⟩
  unfold bStep
  rw [if_pos hh, c2, c3]

theorem BPage.scan {es : List (List UInt8 × Nat)} {l : List UInt8} (h : BPage es l) (hes : ∀ e ∈ es, e.2 < 4294967296) : ∀ k, k ≤ es.length → bScan l k = some (es.take k)
  | 0, _ => by simp [bScan]
  | k + 1, hk => by
    have he : es[k]? = some es[k] := List.getElem?_eq_getElem hk
    rw [bScan_yes (h.scan hes k (by omega)) (h.step hes he), take_succ_some he]
theorem BPage.all {es : List (List UInt8 × Nat)} {l : List UInt8} (h : BPage es l) (hes : ∀ e ∈ es, e.2 < 4294967296) : bScan l (be ((l.drop 2).take 2)) = some es := by
  rw [h.count, h.scan hes _ (Nat.le_refl _), List.take_of_length_le (Nat.le_refl _)]

/-- Nothing is a page's bytes. -/
def BNone (l : List UInt8) : Prop := ∀ es : List (List UInt8 × Nat), (∀ e ∈ es, e.2 < 4294967296) → ¬ BPage es l
theorem BNone.step {l : List UInt8} {k : Nat} (h : bStep l k = none) (hk : k < be ((l.drop 2).take 2)) : BNone l := by
  intro es hes hp
  have h1 := hp.all hes
  have h2 := bScan_mono (d := be ((l.drop 2).take 2) - (k + 1)) (bScan_no h)
  rw [show k + 1 + (be ((l.drop 2).take 2) - (k + 1)) = be ((l.drop 2).take 2) by omega, h1] at h2
  cases h2
theorem BNone.end_ {l : List UInt8} {es : List (List UInt8 × Nat)} (h : bScan l (be ((l.drop 2).take 2)) = some es) (hn : ¬ BPage es l) : BNone l := by
  intro es' hes hp
  rw [hp.all hes] at h
  cases h
  exact hn hp
theorem BNone.len {l : List UInt8} (h : ¬ (512 ≤ l.length ∧ l.length ≤ 4096)) : BNone l := by
  intro es hes hp
  have h1 := hp.right.1
  have h2 := hp.right.2.1
  omega

end Go.Proofs.Ytmljfjmceakahaa
