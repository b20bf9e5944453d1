/- Layer 3: the disk, by values (plain). -/
import Derived.Test.YthijobbhpbklmaaLib
namespace Go.Proofs.Ythijobbhpbklmaa
set_option linter.unusedVariables false
set_option linter.unusedSimpArgs false

/-- A disk. -/
structure Dk where
  size : Nat
  limit : Nat
  good : List (List UInt8)
  loose : List (Nat × List UInt8)
  fails : Int
  calls : Nat
/-- One that may be. -/
structure Dk.OK (D : Dk) : Prop where
  s1 : 512 ≤ D.size
  s2 : D.size ≤ 4096
  s3 : D.size % 128 = 0
  l1 : 1 ≤ D.limit
  l2 : D.limit ≤ 65536
  g1 : D.good.length ≤ D.limit
  g2 : ∀ r ∈ D.good, r.length = D.size
  o1 : ∀ x ∈ D.loose, x.1 < D.good.length ∧ x.2.length = D.size
  f1 : -1 ≤ D.fails
  f2 : D.fails ≤ 9223372036854775807
def zeros (n : Nat) : List UInt8 := List.replicate n 0
theorem zeros_length (n : Nat) : (zeros n).length = n := by simp [zeros]
/-- New. -/
def dNew (size limit : Nat) : Dk := ⟨size, limit, [], [], -1, 0⟩
/-- A call counts; its error. -/
def Dk.count (D : Dk) : Dk := { D with calls := D.calls + 1, fails := if D.fails = -1 then -1 else D.fails - 1 }
def Dk.err (D : Dk) : Int := if D.fails = 0 then 20 else 0
theorem Dk.OK.count {D : Dk} (h : D.OK) : D.count.OK :=
  ⟨h.s1, h.s2, h.s3, h.l1, h.l2, h.g1, h.g2, h.o1, by
    have := h.f1
    show -1 ≤ (if D.fails = -1 then -1 else D.fails - 1)
    split <;> omega, by
    have := h.f1
    have := h.f2
    show (if D.fails = -1 then -1 else D.fails - 1) ≤ 9223372036854775807
    split <;> omega⟩
/-- Grow, behind the count. -/
def Dk.grown (D : Dk) (n : Nat) : Dk := { D with good := D.good ++ List.replicate (n - D.good.length) (zeros D.size) }
/-- What was written last. -/
def lookIn : List (Nat × List UInt8) → Nat → List UInt8 → List UInt8
  | [], _, b => b
  | x :: l, i, b => lookIn l i (if x.1 = i then x.2 else b)
def Dk.look (D : Dk) (i : Nat) : List UInt8 := lookIn D.loose i (D.good.getD i [])
theorem lookIn_snoc (l : List (Nat × List UInt8)) (x : Nat × List UInt8) (i : Nat) (b : List UInt8) : lookIn (l ++ [x]) i b = if x.1 = i then x.2 else lookIn l i b := by
  induction l generalizing b with
  | nil => rfl
  | cons y l ih => exact ih _
def Dk.written (D : Dk) (i : Nat) (b : List UInt8) : Dk := { D with loose := D.loose ++ [(i, b)] }
/-- Pages, with writes laid over them. -/
def laid : List (List UInt8) → List (Nat × List UInt8) → List (List UInt8)
  | g, [] => g
  | g, x :: l => laid (g.set x.1 x.2) l
theorem laid_length (l : List (Nat × List UInt8)) : ∀ g : List (List UInt8), (laid g l).length = g.length := by
  induction l with
  | nil => intro g; rfl
  | cons x l ih => intro g; rw [laid, ih]; simp
theorem laid_snoc (l : List (Nat × List UInt8)) (x : Nat × List UInt8) : ∀ g, laid g (l ++ [x]) = (laid g l).set x.1 x.2 := by
  induction l with
  | nil => intro g; rfl
  | cons y l ih => intro g; exact ih _
def Dk.synced (D : Dk) : Dk := { D with good := laid D.good D.loose, loose := [] }
def Dk.failed (D : Dk) (after : Int) : Dk := { D with fails := if after < -1 then -1 else after }
/-- A page of which some sectors are there. -/
def pickB (pick : UInt8) (k : Nat) : Bool := (pick.toNat >>> (k / 128 % 8)) % 2 == 1
def mixTo (pick : UInt8) (old new : List UInt8) (s : Nat) : List UInt8 := (List.range old.length).map fun k => if k < s * 128 ∧ pickB pick k = true then new.getD k 0 else old.getD k 0
def mixed (pick : UInt8) (old new : List UInt8) : List UInt8 := mixTo pick old new (old.length / 128)
theorem mixTo_length (pick : UInt8) (old new : List UInt8) (s : Nat) : (mixTo pick old new s).length = old.length := by simp [mixTo]
theorem mixTo_zero (pick : UInt8) (old new : List UInt8) : mixTo pick old new 0 = old := by
  apply List.ext_getElem?
  intro i
  by_cases h : i < old.length
  · simp [mixTo, List.getElem?_range h, List.getElem?_eq_getElem h, List.getD]
  · rw [List.getElem?_eq_none (by rw [mixTo_length]; omega), List.getElem?_eq_none (by omega)]
theorem mixTo_skip (pick : UInt8) (old new : List UInt8) (s : Nat) (h : pickB pick (s * 128) = false) : mixTo pick old new (s + 1) = mixTo pick old new s := by
  unfold mixTo
  apply List.map_congr_left
  intro k _
  have e : k < (s + 1) * 128 ∧ pickB pick k = true ↔ k < s * 128 ∧ pickB pick k = true := by
    constructor
    · rintro ⟨h1, h2⟩
      refine ⟨?_, h2⟩
      rcases Nat.lt_or_ge k (s * 128) with h3 | h3
      · exact h3
      · have : k / 128 = s * 128 / 128 := by omega
        unfold pickB at h h2
        rw [this] at h2
        rw [h2] at h
        cases h
    · rintro ⟨h1, h2⟩
      exact ⟨by omega, h2⟩
  simp only [e]
theorem mixTo_take (pick : UInt8) (old new : List UInt8) (s : Nat) (hn : new.length = old.length) (hs : (s + 1) * 128 ≤ old.length) (h : pickB pick (s * 128) = true) :
    mixTo pick old new (s + 1) = splice (mixTo pick old new s) (s * 128) ((new.drop (s * 128)).take 128) := by
  have hsl : ((new.drop (s * 128)).take 128).length = 128 := by rw [List.length_take, List.length_drop]; omega
  have hml := mixTo_length pick old new s
  unfold splice
  apply List.ext_getElem?
  intro i
  by_cases hi : i < old.length
  · have h1 : (mixTo pick old new (s + 1))[i]? = some (if i < (s + 1) * 128 ∧ pickB pick i = true then new.getD i 0 else old.getD i 0) := by
      simp [mixTo, List.getElem?_range hi]
    have h2 : (mixTo pick old new s)[i]? = some (if i < s * 128 ∧ pickB pick i = true then new.getD i 0 else old.getD i 0) := by
      simp [mixTo, List.getElem?_range hi]
    rw [h1]
    have hl1 : ((mixTo pick old new s).take (s * 128)).length = s * 128 := by rw [List.length_take, hml]; omega
    by_cases c1 : i < s * 128
    · rw [List.getElem?_append_left (by rw [hl1]; exact c1), List.getElem?_take, if_pos c1, h2]
      have : i < (s + 1) * 128 := by omega
      simp [c1, this]
    · rw [List.getElem?_append_right (by rw [hl1]; omega), hl1]
      by_cases c2 : i < s * 128 + 128
      · rw [List.getElem?_append_left (by rw [hsl]; omega), List.getElem?_take, if_pos (show i - s * 128 < 128 by omega), List.getElem?_drop]
        have hp : pickB pick i = true := by
          have : i / 128 = s * 128 / 128 := by omega
          unfold pickB at h ⊢
          rw [this]
          exact h
        rw [show s * 128 + (i - s * 128) = i by omega, List.getElem?_eq_getElem (show i < new.length by omega), if_pos (show i < (s + 1) * 128 ∧ pickB pick i = true from ⟨by omega, hp⟩)]
        simp [List.getD, List.getElem?_eq_getElem (show i < new.length by omega)]
      · rw [List.getElem?_append_right (by rw [hsl]; omega), hsl, List.getElem?_drop]
        rw [show s * 128 + 128 + (i - s * 128 - 128) = i by omega, h2]
        have e1 : ¬ i < (s + 1) * 128 := by omega
        simp [c1, e1]
  · rw [List.getElem?_eq_none (by rw [mixTo_length]; omega), List.getElem?_eq_none (by
      rw [List.length_append, List.length_append, List.length_take, List.length_drop, hsl, hml]; omega)]
/-- Pages behind a crash. -/
def crashed : List (List UInt8) → List (Nat × List UInt8) → List UInt8 → List (List UInt8)
  | g, x :: l, p :: ps => crashed (g.set x.1 (mixed p (g.getD x.1 []) x.2)) l ps
  | g, _, _ => g
def Dk.crash (D : Dk) (picks : List UInt8) : Dk := { D with good := crashed D.good D.loose picks, loose := [], fails := -1 }
theorem crashed_length (l : List (Nat × List UInt8)) : ∀ (ps : List UInt8) (g : List (List UInt8)), (crashed g l ps).length = g.length := by
  induction l with
  | nil => intro ps g; cases ps <;> rfl
  | cons x l ih =>
    intro ps g
    cases ps with
    | nil => rfl
    | cons p ps => rw [crashed, ih]; simp
end Go.Proofs.Ythijobbhpbklmaa
