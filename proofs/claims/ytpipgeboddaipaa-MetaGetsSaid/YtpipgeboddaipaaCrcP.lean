/- Plain laws of the sum of bytes (crc): bit by bit, and by half bytes with a table. -/
import Derived.Test.YtpipgeboddaipaaOctR
namespace Go.Proofs.Ytpipgeboddaipaa
open Go.RowKit
set_option linter.unusedVariables false
set_option linter.unusedSimpArgs false

/-- One bit. -/
def crc1 (x : Nat) : Nat := (x / 2) ^^^ (x % 2 * 3988292384)
def crc4 (x : Nat) : Nat := crc1 (crc1 (crc1 (crc1 x)))
def crc8 (x : Nat) : Nat := crc4 (crc4 x)
/-- A row of bytes, from a state on. -/
def crcRun (x : Nat) (l : List UInt8) : Nat := l.foldl (fun x c => crc8 (x ^^^ c.toNat)) x
def crcOf (l : List UInt8) : Nat := 4294967295 - crcRun 4294967295 l

theorem crc1_lt {x : Nat} (h : x < 4294967296) : crc1 x < 4294967296 := by
  unfold crc1
  have : x / 2 < 2 ^ 32 := by omega
  have h2 : x % 2 * 3988292384 < 2 ^ 32 := by omega
  exact Nat.xor_lt_two_pow this h2
theorem crc4_lt {x : Nat} (h : x < 4294967296) : crc4 x < 4294967296 := crc1_lt (crc1_lt (crc1_lt (crc1_lt h)))
theorem crc8_lt {x : Nat} (h : x < 4294967296) : crc8 x < 4294967296 := crc4_lt (crc4_lt h)
theorem xor_lt32 {x y : Nat} (h : x < 4294967296) (h' : y < 4294967296) : x ^^^ y < 4294967296 := Nat.xor_lt_two_pow (n := 32) h h'
theorem crcRun_lt {x : Nat} (l : List UInt8) (h : x < 4294967296) : crcRun x l < 4294967296 := by
  unfold crcRun
  induction l generalizing x with
  | nil => exact h
  | cons c l ih => exact ih (crc8_lt (xor_lt32 h (by have := c.toNat_lt; omega)))
theorem crcOf_lt (l : List UInt8) : crcOf l < 4294967296 := by unfold crcOf; omega
theorem crcRun_snoc (x : Nat) (l : List UInt8) (c : UInt8) : crcRun x (l ++ [c]) = crc8 (crcRun x l ^^^ c.toNat) := by simp [crcRun]

theorem xor_left_comm' (a b c : Nat) : a ^^^ (b ^^^ c) = b ^^^ (a ^^^ c) := by rw [← Nat.xor_assoc, Nat.xor_comm a b, Nat.xor_assoc]
theorem xor_even (a b : Nat) : (2 * a) ^^^ (2 * b) = 2 * (a ^^^ b) := by
  rw [Nat.mul_comm 2 a, Nat.mul_comm 2 b, Nat.mul_comm 2 (a ^^^ b)]
  have := Nat.shiftLeft_xor_distrib (a := a) (b := b) (i := 1)
  simpa [Nat.shiftLeft_eq] using this.symm
theorem crc1_xor (a b : Nat) : crc1 (a ^^^ b) = crc1 a ^^^ crc1 b := by
  unfold crc1
  have h1 : (a ^^^ b) / 2 = (a / 2) ^^^ (b / 2) := Nat.xor_div_two
  have h2 : (a ^^^ b) % 2 = (a % 2) ^^^ (b % 2) := by
    have := Nat.xor_mod_two_pow (a := a) (b := b) (n := 1)
    simpa using this
  rw [h1, h2]
  have ha : a % 2 = 0 ∨ a % 2 = 1 := by omega
  have hb : b % 2 = 0 ∨ b % 2 = 1 := by omega
  rcases ha with ha | ha <;> rcases hb with hb | hb <;> simp only [ha, hb]
  · simp
  · simp [Nat.xor_assoc]
  · simp only [Nat.xor_zero, Nat.zero_mul, Nat.one_mul]
    rw [Nat.xor_assoc, Nat.xor_comm (b / 2), Nat.xor_assoc]
  · simp only [Nat.xor_self, Nat.zero_mul, Nat.xor_zero, Nat.one_mul]
    rw [Nat.xor_assoc, xor_left_comm' 3988292384, Nat.xor_self, Nat.xor_zero]
theorem crc1_even (a : Nat) : crc1 (2 * a) = a := by
  unfold crc1
  simp
theorem crc4_xor (a b : Nat) : crc4 (a ^^^ b) = crc4 a ^^^ crc4 b := by simp only [crc4, crc1_xor]
theorem crc8_xor (a b : Nat) : crc8 (a ^^^ b) = crc8 a ^^^ crc8 b := by simp only [crc8, crc4_xor]
theorem crc4_top (a : Nat) : crc4 (16 * a) = a := by
  unfold crc4
  rw [show 16 * a = 2 * (2 * (2 * (2 * a))) by omega, crc1_even, crc1_even, crc1_even, crc1_even]
theorem split16 (x : Nat) : x = (16 * (x / 16)) ^^^ (x % 16) := by
  have h := Nat.two_pow_add_eq_or_of_lt (i := 4) (b := x % 16) (by omega) (x / 16)
  have h2 : (2 ^ 4 * (x / 16)) &&& (x % 16) = 0 := by
    apply Nat.eq_of_testBit_eq
    intro i
    simp only [Nat.testBit_and, Nat.zero_testBit]
    rw [show x % 16 = x % 2 ^ 4 from rfl, Nat.testBit_mod_two_pow, Nat.testBit_two_pow_mul]
    by_cases hi : i < 4
    · have : ¬ (4 ≤ i) := by omega
      simp [this]
    · simp [hi]
  have h3 : (2 ^ 4 * (x / 16)) ||| (x % 16) = (2 ^ 4 * (x / 16)) ^^^ (x % 16) := by
    apply Nat.eq_of_testBit_eq
    intro i
    have := congrArg (fun z => z.testBit i) h2
    simp only [Nat.testBit_and, Nat.zero_testBit] at this
    simp only [Nat.testBit_or, Nat.testBit_xor]
    cases h1 : (2 ^ 4 * (x / 16)).testBit i <;> cases h2 : (x % 16).testBit i <;> simp_all
  have h4 : x = 2 ^ 4 * (x / 16) + x % 16 := by omega
  rw [h, h3] at h4
  exact h4
/-- Four bits at once. -/
theorem crc4_table (x : Nat) : crc4 x = (x / 16) ^^^ crc4 (x % 16) := by
  conv => lhs; rw [split16 x, crc4_xor, crc4_top]
theorem crc8_table (x : Nat) : crc8 x = ((((x / 16) ^^^ crc4 (x % 16)) / 16) ^^^ crc4 (((x / 16) ^^^ crc4 (x % 16)) % 16)) := by
  unfold crc8
  rw [crc4_table (crc4 x), crc4_table x]

end Go.Proofs.Ytpipgeboddaipaa
