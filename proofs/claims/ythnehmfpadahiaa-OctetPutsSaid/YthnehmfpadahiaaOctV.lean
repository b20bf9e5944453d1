/- Package octet: numbers in as few bytes as need be: slices.Reverse, short, Var, Bytes. -/
import Derived.Test.YthnehmfpadahiaaOctR
import Derived.ChangeAlike
import Derived.BigRegion
namespace Go.Proofs.Ythnehmfpadahiaa
open Go.RowKit
set_option linter.unusedVariables false
set_option linter.unusedSimpArgs false

theorem MB.cell_ {w : World} {g : Nat} {l : List UInt8} (h : MB w g l) (k : Nat) (hk : k < l.length) : w.cell? ⟨g, k, none⟩ = some (.int .u8 (l[k].toNat : Int)) ∧ w.frozen? ⟨g, k, none⟩ = false :=
  h.2 k l[k] (List.getElem?_eq_getElem hk)

/-- What k rounds of the reversal leave. -/
def Revd (l m : List UInt8) (k : Nat) : Prop := m.length = l.length ∧ ∀ t, t < l.length → m[t]? = l[if t < k ∨ l.length - k ≤ t then l.length - 1 - t else t]?
theorem Revd.start (l : List UInt8) : Revd l l 0 := ⟨rfl, fun t ht => by rw [if_neg (by omega)]⟩
theorem Revd.done {l m : List UInt8} {k : Nat} (h : Revd l m k) (hk : l.length ≤ 2 * k + 1) : m = l.reverse := by
  apply List.ext_getElem?
  intro t
  by_cases ht : t < l.length
  · rw [h.2 t ht, List.getElem?_reverse ht]
    by_cases e : t < k ∨ l.length - k ≤ t
    · rw [if_pos e]
    · rw [if_neg e]
      congr 1
      omega
  · rw [List.getElem?_eq_none (by rw [h.1]; omega), List.getElem?_eq_none (by rw [List.length_reverse]; omega)]
theorem Revd.step {l m : List UInt8} {k : Nat} (h : Revd l m k) (hk : k < l.length - 1 - k) (h1 : k < m.length) (h2 : l.length - 1 - k < m.length) :
    Revd l ((m.set k m[l.length - 1 - k]).set (l.length - 1 - k) m[k]) (k + 1) := by
  refine ⟨by simp [h.1], fun t ht => ?_⟩
  have e1 : m[k]? = l[k]? := by rw [h.2 k (by omega), if_neg (by omega)]
  have e2 : m[l.length - 1 - k]? = l[l.length - 1 - k]? := by rw [h.2 _ (by omega), if_neg (by omega)]
  by_cases a : t = l.length - 1 - k
  · subst a
    rw [List.getElem?_set_self (by simpa using h2), if_pos (by omega), ← List.getElem?_eq_getElem h1, e1]
    congr 1
    omega
  · rw [List.getElem?_set_ne (fun e => a e.symm)]
    by_cases b : t = k
    · subst b
      rw [List.getElem?_set_self h1, if_pos (by omega), ← List.getElem?_eq_getElem h2, e2]
    · rw [List.getElem?_set_ne (fun e => b e.symm), h.2 t ht]
      by_cases c : t < k ∨ l.length - k ≤ t
      · rw [if_pos c, if_pos (by omega)]
      · rw [if_neg c, if_neg (by omega)]

theorem reverse_any (w : World) (g : Nat) (l : List UInt8) (c : Nat) (h : MB w g l) (n : Nat) (hn : l.length = n) (hnc : n ≤ c) (hm : n ≤ 140737488355328) :
    Calls Try.prog 55 #[.slice (some ⟨g, 0, none⟩) n c] w fun e w' => e = .returned (.tuple #[]) ∧ MB w' g l.reverse ∧ At g w w' := by
  have HN := Lib.hid hn
  clear hn
  go_enter Try.func55, Try.ntmps55
  go_wp2
  go_loopw [2, 3] (fun i j wr => ∃ (k : Nat) (m : List UInt8), 2 * k ≤ n ∧ i = .int .i64 k ∧ j = .int .i64 ((n : Int) - 1 - k) ∧ Revd l m k ∧ MB wr g m ∧ At g w wr) (fun i _ _ => n - (intOf i).toNat)
  case atStart => exact ⟨0, l, by omega, rfl, by simp, Revd.start l, h, At.refl _ _⟩
  case round =>
    obtain ⟨k, m, hk, rfl, rfl, hrev, hmb, hat⟩ := hrel
    have hml := hrev.1
    rw [HN.out] at hml
    by_cases hlt : (k : Int) < (n : Int) - 1 - (k : Int)
    · obtain ⟨q, hq⟩ : ∃ q, n - 1 - k = q := ⟨_, rfl⟩
      have hqi : (n : Int) - 1 - (k : Int) = (q : Int) := by omega
      have hk1 : k < m.length := by omega
      have hq1 : q < m.length := by omega
      have hkq : k < q := by omega
      have hqn : q < n := by omega
      obtain ⟨hc1, hf1⟩ := hmb.cell_ k hk1
      obtain ⟨hc2, hf2⟩ := hmb.cell_ q hq1
      have b1 : (0 : Int) ≤ (k : Int) := by omega
      have b2 : (0 : Int) ≤ (q : Int) := by omega
      have b3 : (k : Int) < (n : Int) := by omega
      have b4 : (q : Int) < (n : Int) := by omega
      rw [hqi] at hlt ⊢
      have HQ := Lib.hid hq
      have HQI := Lib.hid hqi
      have HML := Lib.hid hml
      clear hq hqi hml
      go_wp2
      go_region
      all_goals
        go_wp2
        go_roundw
        case rel =>
          refine ⟨k + 1, (m.set k m[q]).set q m[k], by have := HQ.out; omega, by go_num, congrArg (Value.int .i64) (by have := HQI.out; omega), ?_, (hmb.set_ k m[q] hk1).set_ q m[k] (by simpa using hq1), ((hat.setCell k _).setCell q _).drew⟩
          have hq' : l.length - 1 - k = q := by rw [HN.out]; exact HQ.out
          subst hq'
          exact hrev.step hkq hk1 hq1
        case measure => simp [intOf]; omega
    · have hd := hrev.done (by rw [HN.out]; omega)
      subst hd
      go_wp2
      go_end0
      exact ⟨rfl, hmb, hat⟩

/-- The bytes behind the first of a number in as few as need be, the lowest first. -/
def vCont (f x : Nat) : List UInt8 := match f with
  | 0 => []
  | f + 1 => if x = 0 then [] else UInt8.ofNat (x % 128 + 128) :: vCont f (x / 128)
/-- A number in as few bytes as need be. -/
def varB (x : Nat) : List UInt8 := (UInt8.ofNat (x % 128) :: vCont 10 (x / 128)).reverse
theorem vCont_zero (f : Nat) : vCont f 0 = [] := by cases f <;> simp [vCont]
theorem vCont_length (f x : Nat) : (vCont f x).length ≤ f := by
  induction f generalizing x with
  | zero => simp [vCont]
  | succ f ih =>
    unfold vCont
    split
    · simp
    · simpa using ih _
theorem varB_length (x : Nat) : (varB x).length ≤ 11 := by
  unfold varB
  have := vCont_length 10 (x / 128)
  simp
  omega

theorem vCont_pos (f x : Nat) (h : x ≠ 0) : vCont (f + 1) x = UInt8.ofNat (x % 128 + 128) :: vCont f (x / 128) := by
  simp [vCont, h]
/-- What the loop of short has done: acc, and what is left of the number. -/
def VInv (x y : Nat) (acc : List UInt8) : Prop := ∃ f, acc.length + f = 10 ∧ acc ++ vCont f y = vCont 10 (x / 128) ∧ y < 128 ^ f
theorem VInv.start (x : Nat) (hx : x < 18446744073709551616) : VInv x (x / 128) [] := ⟨10, rfl, rfl, by omega⟩
theorem VInv.step {x y : Nat} {acc : List UInt8} (h : VInv x y acc) (hy : y ≠ 0) : VInv x (y / 128) (acc ++ [UInt8.ofNat (y % 128 + 128)]) := by
  obtain ⟨f, h1, h2, h3⟩ := h
  cases f with
  | zero => simp at h3; omega
  | succ f =>
    rw [vCont_pos f y hy] at h2
    exact ⟨f, by simp; omega, by rw [← h2]; simp, by rw [Nat.pow_succ] at h3; exact Nat.div_lt_of_lt_mul (by rw [Nat.mul_comm]; exact h3)⟩
theorem VInv.done {x : Nat} {acc : List UInt8} (h : VInv x 0 acc) : acc = vCont 10 (x / 128) := by
  obtain ⟨f, h1, h2, h3⟩ := h
  rw [← h2, vCont_zero, List.append_nil]
theorem VInv.len {x y : Nat} {acc : List UInt8} (h : VInv x y acc) : acc.length ≤ 10 := by
  obtain ⟨f, h1, _⟩ := h; omega
theorem low_byte (x : Nat) : ((x : Int) % 128) = ((UInt8.ofNat (x % 128)).toNat : Int) := by
  simp [UInt8.toNat_ofNat']; omega
theorem high_byte (x : Nat) : ((x : Int) % 128 + 128) = ((UInt8.ofNat (x % 128 + 128)).toNat : Int) := by
  simp [UInt8.toNat_ofNat']; omega

theorem short_any (w : World) (x : Nat) (hx : x < 18446744073709551616) :
    Calls Try.prog 47 #[.int .u64 (x : Int)] w fun e w' => ∃ g n c, e = .returned (.slice (some ⟨g, 0, none⟩) n c) ∧ MB w' g (varB x) ∧ (varB x).length = n ∧ n ≤ c ∧ w.heap.size ≤ g ∧ Below w.heap.size w w' := by
  obtain ⟨i0, hi0, hz0, hz1, hz2⟩ := info_parts info_u8
  go_enter Try.func47, Try.ntmps47
  go_wp2
  go_loopw [0, 3] (fun y v wr => ∃ (q : Nat) (acc : List UInt8) (A : Option Addr) (n c : Nat), y = .int .u64 (q : Int) ∧ q ≤ 18446744073709551615 ∧ VInv x q acc ∧ v = .slice A n c ∧ n ≤ 11 ∧ wr.ownsRow w.heap.size 5 1 (.slice A n c) n (bv (UInt8.ofNat (x % 128) :: acc)) ∧ Below w.heap.size w wr) (fun y _ _ => (intOf y).toNat)
  case atStart =>
    have hrow : RowB (w.alloc (.cells #[.int .u8 ((x : Int) % 128)] 5)) w.heap.size [UInt8.ofNat (x % 128)] := by
      rw [low_byte]; exact heap_alloc_new w _
    exact ⟨x / 128, [], _, 1, 1, by simp, by omega, VInv.start x hx, rfl, by omega, hrow.own _ (Nat.le_refl _) (by simp), (Below.refl _ _).alloc (Nat.le_refl _) _⟩
  case round =>
    obtain ⟨q, acc, A, n, c, rfl, hq, hinv, rfl, hn, hown, hbw⟩ := hrel
    have hl := hinv.len
    have hnl := hown.1
    simp [bv_length] at hnl
    have HNL := Lib.hid hnl
    clear hnl
    have hbs := hbw.size
    by_cases hpos : 0 < q
    · go_wp2_with (first | (at_builtin; refine wpList_append_any _ rfl _ _ _ rfl w.heap.size 5 i0 _ 1 1 Try.underlying22 hi0 hz0 hz1 hz2 rfl (by omega) (.slice A n c) n _ rfl (hown.alloc _) _ _ 1 1 _ rfl (Reads.one _ _ _) (by simp [Value.oneCell']) (by unfold maxLen; omega) (by omega) (by simp; omega) ?_; intro v' w1 hown1 hg1 hat1; obtain ⟨A', c', rfl⟩ := own_slice hown1))
      have hst := hinv.step (show q ≠ 0 by omega)
      have hl2 := hst.len
      have hh := HNL.out
      simp at hl2
      refine ⟨⟨q / 128, acc ++ [UInt8.ofNat (q % 128 + 128)], A', n + 1, c', by simp, by omega, hst, rfl, by omega, ?_, (hbw.alloc hbs _).grown hg1 (by simp; omega) (fun k hk => own_base hown k hk)⟩, ?_⟩
      · rw [show (UInt8.ofNat (x % 128) :: (acc ++ [UInt8.ofNat (q % 128 + 128)])) = (UInt8.ofNat (x % 128) :: acc) ++ [UInt8.ofNat (q % 128 + 128)] from rfl, bv_append]
        refine Eq.subst (motive := fun z => w1.ownsRow _ _ _ _ _ (_ ++ [Value.int .u8 z])) ?_ hown1
        rw [← high_byte]
      · simp [intOf]
        omega
    · have hq0 : q = 0 := by omega
      subst hq0
      have hd := hinv.done
      subst hd
      obtain ⟨g, c', hv, hmb, hnc, hgb⟩ := MB.of_own hown (by have := HNL.out; omega)
      injection hv with hA _ hc
      subst hA hc
      go_wp2_with (first | (go_at_call 55; refine (reverse_any _ _ _ _ hmb n (by have := HNL.out; simp; omega) hnc (by omega)).mono ?_; rintro e w1 ⟨rfl, hmb1, hat1⟩))
      go_ret
      exact ⟨g, n, c, rfl, hmb1, by have := HNL.out; simp [varB]; omega, hnc, hgb, hbw.trans (hat1.below hgb hbs)⟩

theorem var_i (B g : Nat) (l : List UInt8) (X : Int) (w : World) (h : IsW B w g l) (hX : 0 ≤ X) (hX' : X ≤ 18446744073709551615) (hl : l.length ≤ 1099511627776) (hB : B ≤ w.heap.size) :
    Calls Try.prog 27 #[.pointer (some ⟨g, 0, none⟩), .int .u64 X] w fun e w' => e = .returned (.tuple #[]) ∧ IsW B w' g (l ++ varB X.toNat) ∧ Below B w w' := by
  obtain ⟨x, rfl⟩ := Int.eq_ofNat_of_zero_le hX
  go_enter Try.func27, Try.ntmps27
  go_wp2_with fail
  refine (short_any _ x (by omega)).mono ?_
  rintro e w1 ⟨gs, n, c, rfl, hmb, hn, hnc, hgs, hb1⟩
  have hlen := varB_length x
  have HN := Lib.hid hn
  clear hn
  have hz := hb1.size
  go_wp2_with fail
  refine (raw_any _ _ _ _ (h.below hb1) (by omega) _ _ _ _ _ (hmb.sl HN.out hnc) (by have := HN.out; omega)).mono ?_
  rintro e w2 ⟨rfl, hW2, hb2⟩
  go_wp2_with fail
  go_end0
  exact ⟨rfl, hW2, (hb1.mono hB).trans hb2⟩

theorem wbytes_any (B g : Nat) (l : List UInt8) (w : World) (h : IsW B w g l) (hB : B ≤ w.heap.size) (D : Nat) (A : Option Addr) (n c : Nat) (m : List UInt8) (hm : Sl w D A n c m) (hl : l.length + n ≤ 1099511627776) (hw : ∀ w', Below B w w' → Sl w' D A n c m) :
    Calls Try.prog 29 #[.pointer (some ⟨g, 0, none⟩), .slice A n c] w fun e w' => e = .returned (.tuple #[]) ∧ IsW B w' g (l ++ varB n ++ m) ∧ Below B w w' := by
  have hvl := varB_length n
  go_enter Try.func29, Try.ntmps29
  have hw64 : IntKind.u64.wrap (n : Int) = (n : Int) := IntWalk.u64_in _ (by omega)
  go_wp2_with fail
  refine (var_i _ _ _ _ _ h (by omega) (by omega) (by omega) hB).mono ?_
  rintro e w1 ⟨rfl, hW1, hb1⟩
  simp only [Int.toNat_natCast] at hW1
  have hm1 := hw _ hb1
  have hB1 : B ≤ w1.heap.size := Nat.le_trans hB hb1.size
  clear hw hm
  go_wp2_with fail
  refine (raw_any _ _ _ _ hW1 hB1 _ _ _ _ _ hm1 (by simp; omega)).mono ?_
  rintro e w2 ⟨rfl, hW2, hb2⟩
  go_wp2_with fail
  go_end0
  exact ⟨rfl, hW2, hb1.trans hb2⟩

end Go.Proofs.Ythnehmfpadahiaa
