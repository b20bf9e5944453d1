/- Plain laws of chain pages: what is put is got. -/
import Derived.Test.YthnehmfpadahiaaRef1
import Derived.Lib.SlBytesConst
namespace Go.Proofs.Ythnehmfpadahiaa
open Go.RowKit
set_option linter.unusedVariables false
set_option linter.unusedSimpArgs false

theorem be_from (l : List UInt8) : ∀ a : Nat, l.foldl (fun x c => x * 256 + c.toNat) a = a * 256 ^ l.length + be l := by
  induction l with
  | nil => intro a; simp [be]
  | cons c l ih =>
    intro a
    have h := ih (0 * 256 + c.toNat)
    simp only [be, List.foldl_cons, List.length_cons] at *
    rw [ih (a * 256 + c.toNat), h, Nat.pow_succ, Nat.add_mul, Nat.mul_assoc, Nat.mul_comm 256 (256 ^ l.length), Nat.zero_mul, Nat.zero_add]
    omega
theorem be_cons (c : UInt8) (l : List UInt8) : be (c :: l) = c.toNat * 256 ^ l.length + be l := by
  have := be_from l (0 * 256 + c.toNat)
  simpa [be] using this
theorem be_numB (x k : Nat) : be (numB x k) = x % 256 ^ k := by
  induction k with
  | zero => simp [numB, be, Nat.mod_one]
  | succ k ih =>
    rw [numB_succ, be_cons, ih, numB_length, Nat.pow_succ, Nat.mod_mul]
    have h : (UInt8.ofNat (x / 2 ^ (8 * k))).toNat = x / 256 ^ k % 256 := by
      rw [Nat.pow_mul]
      simp [UInt8.toNat_ofNat']
    rw [h, Nat.mul_comm]
    omega
theorem be_numB_lt (x k : Nat) (h : x < 256 ^ k) : be (numB x k) = x := by rw [be_numB, Nat.mod_eq_of_lt h]

section
variable {a b : List UInt8} {n : Nat}
theorem takeE_app (h : a.length = n) : takeE (a ++ b) 0 n = 0 := by
  unfold takeE
  rw [if_neg (by simp; omega)]
theorem takeL_app (h : a.length = n) : takeL (a ++ b) 0 n = a := by
  have h0 : (if (a ++ b).length < n then fErr 0 10 else 0) = 0 := takeE_app h
  unfold takeL
  rw [if_pos h0, ← h]
  simp
theorem takeR_app (h : a.length = n) : takeR (a ++ b) 0 n = b := by
  have h0 : (if (a ++ b).length < n then fErr 0 10 else 0) = 0 := takeE_app h
  unfold takeR
  rw [if_pos h0, ← h]
  simp
end

theorem chPut_assoc (l : List UInt8) (next size : Nat) : chPut l next size = [3, 0] ++ (numB l.length 2 ++ (numB next 4 ++ (l ++ List.replicate (size - 8 - l.length) 0))) := by simp [chPut]
theorem chGet_put (l : List UInt8) (next size : Nat) (hx : next < 4294967296) (h1 : 512 ≤ size) (h2 : size ≤ 4096) (h3 : 1 ≤ l.length) (h4 : l.length + 8 ≤ size) :
    chGet (chPut l next size) = some (l, next) := by
  have hlen := chPut_length l next size h4
  have a1 := chPut_assoc l next size
  have r1 : takeR (chPut l next size) 0 2 = numB l.length 2 ++ (numB next 4 ++ (l ++ List.replicate (size - 8 - l.length) 0)) := by rw [a1]; exact takeR_app rfl
  have e1 : takeE (chPut l next size) 0 2 = 0 := by rw [a1]; exact takeE_app rfl
  have n1 : chN (chPut l next size) = l.length := by
    unfold chN
    rw [r1, e1, takeL_app (numB_length _ _), be_numB_lt _ _ (by omega)]
  have r2 : chR2 (chPut l next size) = numB next 4 ++ (l ++ List.replicate (size - 8 - l.length) 0) := by
    unfold chR2
    rw [r1, e1, takeR_app (numB_length _ _)]
  have e2 : chE2 (chPut l next size) = 0 := by
    unfold chE2
    rw [r1, e1, takeE_app (numB_length _ _)]
  have x1 : chX (chPut l next size) = next := by
    unfold chX
    rw [r2, e2, takeL_app (numB_length _ _), be_numB_lt _ _ (by omega)]
  have p1 : chPart (chPut l next size) = l := by
    unfold chPart
    rw [r2, e2, takeR_app (numB_length _ _), takeE_app (numB_length _ _), n1, takeL_app rfl]
  unfold chGet
  rw [p1, x1, hlen, if_pos ⟨h1, h2, h3, h4, rfl⟩]

theorem cput_i (w : World) (B : Nat) (A : Option Addr) (n c : Nat) (l : List UInt8) (X S : Int) (h : Sl w B A n c l) (hX : 0 ≤ X) (hX' : X ≤ 4294967295) (h1 : 512 ≤ S) (h2 : S ≤ 4096) (h3 : 1 ≤ n) (h4 : (n : Int) + 8 ≤ S) :
    Calls Try.prog 15 #[.slice A n c, .int .u32 X, .int .i64 S] w fun e w' => ∃ g, e = .returned (.tuple #[.slice (some ⟨g, 0, none⟩) S.toNat S.toNat, .int .i64 0]) ∧ w.heap.size ≤ g ∧ RowB w' g (chPut l X.toNat S.toNat) ∧ Below w.heap.size w w' := by
  obtain ⟨x, rfl⟩ := Int.eq_ofNat_of_zero_le hX
  obtain ⟨s, rfl⟩ := Int.eq_ofNat_of_zero_le (show 0 ≤ S by omega)
  exact cput_ok w B A n c l h x s (by omega) (by omega) (by omega) h3 (by omega)

theorem cget_some (w : World) (B : Nat) (A : Option Addr) (n c : Nat) (l p : List UInt8) (x : Nat) (h : Sl w B A n c l) (hn : n ≤ 140737488355328) (hg : chGet l = some (p, x)) :
    Calls Try.prog 17 #[.slice A n c] w fun e w' => ∃ A' n' c', e = .returned (.tuple #[.slice A' n' c', .int .u32 (x : Int), .int .i64 0]) ∧ w'.ownsRow w.heap.size 5 1 (.slice A' n' c') n' (bv p) ∧ x < 4294967296 ∧ Below w.heap.size w w' := by
  refine (cget_any w B A n c l h hn).mono ?_
  rintro e w' ⟨hb, hp⟩
  rw [hg] at hp
  obtain ⟨hx, A', n', c', he, ho⟩ := hp
  exact ⟨A', n', c', he, ho, hx, hb⟩
theorem cget_none (w : World) (B : Nat) (A : Option Addr) (n c : Nat) (l : List UInt8) (h : Sl w B A n c l) (hn : n ≤ 140737488355328) (hg : chGet l = none) :
    Calls Try.prog 17 #[.slice A n c] w fun e w' => e = .returned (.tuple #[.slice none 0 0, .int .u32 0, .int .i64 11]) ∧ Below w.heap.size w w' := by
  refine (cget_any w B A n c l h hn).mono ?_
  rintro e w' ⟨hb, hp⟩
  rw [hg] at hp
  exact ⟨hp, hb⟩

theorem many_ok (w : World) (n size : Int) (hn : 1 ≤ n) (hn' : n ≤ 9223372036854775807) (h1 : 512 ≤ size) (h2 : size ≤ 4096) :
    Calls Try.prog 19 #[.int .i64 n, .int .i64 size] w fun e w' => e = .returned (.int .i64 ((n - 1) / (size - 8) + 1)) ∧ w = w' := by
  have hd : (n - 1) / (size - 8) ≤ n - 1 := Int.ediv_le_self _ (by omega)
  have hd0 : 0 ≤ (n - 1) / (size - 8) := Int.ediv_nonneg (by omega) (by omega)
  have hb : decide (n < 1) = false := decide_eq_false (by omega)
  have hq : IntKind.i64.wrap ((n - 1).tdiv (size - 8)) = (n - 1) / (size - 8) := by
    rw [Int.tdiv_eq_ediv_of_nonneg (by omega)]; exact IntWalk.i64_in _ (by omega)
  go_enter Try.func19, Try.ntmps19
  go_wp2_with (first | (go_at_call 41; refine (cmay_yes _ (by omega) (by omega) _).mono ?_; rintro e w' ⟨rfl, rfl⟩))
  go_ret
  exact ⟨rfl, rfl⟩

theorem awake6 (w : World) : Calls Try.prog 14 #[] w fun e w' => e = .returned (.bool true) ∧ Below w.heap.size w w' := by
  have kc := fun (w : World) (C : Array Value) (n c : Nat) => Lib.run_convert_bytes_const (P := Try.prog) w 22 5 C n c Try.underlying22 Try.underlying5
  have hs0 := Sl.lit w [97, 98] #[.int .u8 97, .int .u8 98] rfl 2 rfl (2, 3)
  have hb0 : Below w.heap.size w (w.alloc (.cells #[.int .u8 97, .int .u8 98] 5 (2, 3))) := (Below.refl _ _).alloc (Nat.le_refl _) _
  go_enter Try.func14, Try.ntmps14
  go_wp2_with fail
  refine (cput_i _ _ _ _ _ _ _ _ hs0 (by omega) (by omega) (by omega) (by omega) (by decide) (by decide)).mono ?_
  rintro e w1 ⟨g1, rfl, hg1, hr1, hb1'⟩
  have hb1 := hb0.trans (hb1'.mono hb0.size)
  simp only [Int.reduceToNat] at hr1
  go_wp2_with fail
  refine (cget_some _ _ _ _ _ _ [97, 98] 7 (hr1.slN (n := 512) (by simp [chPut_length]) (by omega)) (by omega) (chGet_put _ _ _ (by omega) (by omega) (by omega) (by decide) (by decide))).mono ?_
  rintro e w2 ⟨A2, n2, c2, rfl, ho2, _, hb2'⟩
  have hr2 := hr1.below hb2' hr1.lt
  have hb2 := hb1.trans (hb2'.mono hb1.size)
  have c0 : w2.cell? ⟨g1, 0, none⟩ = some (.int .u8 3) := hr2.cell (i := 0) (b := 3) (by rfl)
  have c7 : w2.cell? ⟨g1, 7, none⟩ = some (.int .u8 7) := hr2.cell (i := 7) (b := 7) (by rfl)
  have c9 : w2.cell? ⟨g1, 9, none⟩ = some (.int .u8 98) := hr2.cell (i := 9) (b := 98) (by rfl)
  have hcv := string_of_sl (P := Try.prog) Try.underlying22 Try.underlying5 Try.underlying9 (Sl.of_own ho2)
  clear hr2 hr1 hg1
  go_wp2_with (first | (go_at_call 19; refine (many_ok _ _ _ (by omega) (by omega) (by omega) (by omega)).mono ?_; rintro e w' ⟨rfl, rfl⟩))
  go_ret
  exact ⟨rfl, hb2⟩

end Go.Proofs.Ythnehmfpadahiaa
