/- Package crc: contract of Of for one row of bytes. -/
import Derived.Test.YtpipgeboddaipaaCrc
namespace Go.Proofs.Ytpipgeboddaipaa
open Go.RowKit
set_option linter.unusedVariables false
set_option linter.unusedSimpArgs false

/-- The table's cells. -/
def tbF (f : Nat → Nat) : Array Value := #[.int .u32 ((f 0 : Nat) : Int), .int .u32 ((f 1 : Nat) : Int), .int .u32 ((f 2 : Nat) : Int), .int .u32 ((f 3 : Nat) : Int), .int .u32 ((f 4 : Nat) : Int), .int .u32 ((f 5 : Nat) : Int), .int .u32 ((f 6 : Nat) : Int), .int .u32 ((f 7 : Nat) : Int), .int .u32 ((f 8 : Nat) : Int), .int .u32 ((f 9 : Nat) : Int), .int .u32 ((f 10 : Nat) : Int), .int .u32 ((f 11 : Nat) : Int), .int .u32 ((f 12 : Nat) : Int), .int .u32 ((f 13 : Nat) : Int), .int .u32 ((f 14 : Nat) : Int), .int .u32 ((f 15 : Nat) : Int)]
theorem tbF_get (f : Nat → Nat) (j : Nat) (h : j < 16) : (tbF f)[j]? = some (.int .u32 ((f j : Nat) : Int)) := by
  match j, h with
  | 0, _ => rfl
  | 1, _ => rfl
  | 2, _ => rfl
  | 3, _ => rfl
  | 4, _ => rfl
  | 5, _ => rfl
  | 6, _ => rfl
  | 7, _ => rfl
  | 8, _ => rfl
  | 9, _ => rfl
  | 10, _ => rfl
  | 11, _ => rfl
  | 12, _ => rfl
  | 13, _ => rfl
  | 14, _ => rfl
  | 15, _ => rfl
  | k + 16, h => exact absurd h (by omega)
theorem table_f (w : World) : Calls Try.prog 37 #[] w fun e w' => ∃ f : Nat → Nat, e = .returned (.agg #[.int .u32 ((f 0 : Nat) : Int), .int .u32 ((f 1 : Nat) : Int), .int .u32 ((f 2 : Nat) : Int), .int .u32 ((f 3 : Nat) : Int), .int .u32 ((f 4 : Nat) : Int), .int .u32 ((f 5 : Nat) : Int), .int .u32 ((f 6 : Nat) : Int), .int .u32 ((f 7 : Nat) : Int), .int .u32 ((f 8 : Nat) : Int), .int .u32 ((f 9 : Nat) : Int), .int .u32 ((f 10 : Nat) : Int), .int .u32 ((f 11 : Nat) : Int), .int .u32 ((f 12 : Nat) : Int), .int .u32 ((f 13 : Nat) : Int), .int .u32 ((f 14 : Nat) : Int), .int .u32 ((f 15 : Nat) : Int)]) ∧ Hid (∀ j, j < 16 → f j = crc4 j) ∧ Below w.heap.size w w' := by
  refine (table_any w).mono ?_
  rintro e w' ⟨rfl, hb⟩
  refine ⟨tbV 16, rfl, Lib.hid fun j hj => ?_, hb⟩
  simp [tbV, hj]

theorem xorc_u32 (x : Nat) (c : Nat) (h : x < 4294967296) (h' : c < 4294967296) : bits BinOp.xor IntKind.u32 (x : Int) (c : Int) = ((x ^^^ c : Nat) : Int) := u32_xor_nat x c h h'
theorem and15_u32 (x : Nat) (h : x < 4294967296) : bits BinOp.and IntKind.u32 (x : Int) 15 = ((x % 16 : Nat) : Int) := by
  have e : bits BinOp.and IntKind.u32 (x : Int) 15 = ((x &&& 15 : Nat) : Int) := u32_and_nat x 15 h (by omega)
  have := Nat.and_two_pow_sub_one_eq_mod x 4
  rw [e]
  simp at this
  rw [this]

theorem not_u32 (x : Nat) (h : x < 4294967296) : bits BinOp.xor IntKind.u32 IntKind.u32.max (x : Int) = ((4294967295 - x : Nat) : Int) := by
  have e : bits BinOp.xor IntKind.u32 IntKind.u32.max (x : Int) = ((4294967295 ^^^ x : Nat) : Int) := u32_xor_nat 4294967295 x (by omega) h
  have h2 := BitVec.toNat_not (x := BitVec.ofNat 32 x)
  rw [BitVec.not_def, BitVec.toNat_xor, BitVec.toNat_allOnes, BitVec.toNat_ofNat, Nat.mod_eq_of_lt (by omega)] at h2
  rw [e, show (4294967295 : Nat) = 2 ^ 32 - 1 from rfl, h2]

set_option maxRecDepth 20000 in
set_option maxHeartbeats 2000000 in
theorem crcof_any (w : World) (q : Nat) (B : Nat) (A : Option Addr) (n c : Nat) (l : List UInt8) (hq : w.cell? ⟨q, 0, none⟩ = some (.slice A n c)) (hs : Sl w B A n c l) (hn : n ≤ 5000) :
    Calls Try.prog 26 #[.slice (some ⟨q, 0, none⟩) 1 1] w fun e w' => e = .returned (.int .u32 (crcOf l : Nat)) ∧ Below w.heap.size w w' := by
  have HL := Lib.hid hs.len
  have hqlt := World.block_lt_of_cell? w _ hq
  go_enter Try.func26, Try.ntmps26
  go_wp2_with (first | (go_at_call 37; refine (table_f _).mono ?_; rintro e w1 ⟨f, rfl, hf, hb1⟩))
  have hblk : (w1.alloc (.cells (tbF f) 81)).heap[w1.heap.size]? = some (.cells (tbF f) 81 (0, 0)) := heap_alloc_new w1 _
  have hb2 : Below w.heap.size w (w1.alloc (.cells (tbF f) 81)) := hb1.alloc hb1.size _
  have hq2 : (w1.alloc (.cells (tbF f) 81)).cell? ⟨q, 0, none⟩ = some (.slice A n c) := (hb2.cell hqlt).trans hq
  have hs2 := hs.belowX hb2
  rw [show (#[.int .u32 ((f 0 : Nat) : Int), .int .u32 ((f 1 : Nat) : Int), .int .u32 ((f 2 : Nat) : Int), .int .u32 ((f 3 : Nat) : Int), .int .u32 ((f 4 : Nat) : Int), .int .u32 ((f 5 : Nat) : Int), .int .u32 ((f 6 : Nat) : Int), .int .u32 ((f 7 : Nat) : Int), .int .u32 ((f 8 : Nat) : Int), .int .u32 ((f 9 : Nat) : Int), .int .u32 ((f 10 : Nat) : Int), .int .u32 ((f 11 : Nat) : Int), .int .u32 ((f 12 : Nat) : Int), .int .u32 ((f 13 : Nat) : Int), .int .u32 ((f 14 : Nat) : Int), .int .u32 ((f 15 : Nat) : Int)] : Array Value) = tbF f from rfl]
  have hcell : ∀ j, j < 16 → (w1.alloc (.cells (tbF f) 81)).cell? ⟨w1.heap.size, j, none⟩ = some (.int .u32 ((f j : Nat) : Int)) := by
    intro j hj
    rw [blk_cell hblk j, tbF_get f j hj]
  obtain ⟨q1, hq1⟩ : ∃ q1, w1.heap.size = q1 := ⟨_, rfl⟩
  rw [hq1] at hcell ⊢
  generalize w1.alloc (.cells (tbF f) 81) = w2 at hb2 hq2 hs2 hcell ⊢
  generalize tbF f = T
  have HC := Lib.hid hcell
  clear hcell hblk hq1 hb1 hs hq
  go_loop [4, 12] (fun x i => ∃ k : Nat, k ≤ 1 ∧ i = .int .i64 (k : Int) ∧ x = .int .u32 ((if k = 0 then 4294967295 else crcRun 4294967295 l : Nat) : Int)) (fun _ i => 1 - (intOf i).toNat)
  case atStart => exact ⟨0, by omega, rfl, rfl⟩
  case round =>
    obtain ⟨k, hk, rfl, rfl⟩ := hrel
    by_cases hk0 : k = 0
    · subst hk0
      go_wp2
      go_loop [4, 18] (fun x i => ∃ j : Nat, j ≤ n ∧ i = .int .i64 (j : Int) ∧ x = .int .u32 ((crcRun 4294967295 (l.take j) : Nat) : Int)) (fun _ i => n - (intOf i).toNat)
      case atStart => exact ⟨0, by omega, rfl, by simp [crcRun]⟩
      case round =>
        obtain ⟨j, hj, rfl, rfl⟩ := hrel
        by_cases hlt : j < n
        · obtain ⟨ad, u, rfl, _, hu, hcu⟩ := hs2.get hlt
          have hX := crcRun_lt (x := 4294967295) (l.take j) (by omega)
          have hul := u.toNat_lt
          have hsn := crcRun_snoc 4294967295 (l.take j) u
          rw [← take_snoc hu, crc8_table] at hsn
          obtain ⟨X, hXe⟩ : ∃ X, crcRun 4294967295 (l.take j) = X := ⟨_, rfl⟩
          rw [hXe] at hX hsn ⊢
          obtain ⟨Y, hY⟩ : ∃ Y, X ^^^ u.toNat = Y := ⟨_, rfl⟩
          have hYl : Y < 4294967296 := by rw [← hY]; exact xor_lt32 hX (by omega)
          have g1 := xorc_u32 X u.toNat hX (by omega)
          rw [hY] at hsn g1
          have hm1 : Y % 16 < 16 := by omega
          have k1 := HC.out (Y % 16) hm1
          rw [hf.out (Y % 16) hm1] at k1
          obtain ⟨Z, hZ⟩ : ∃ Z, (Y / 16) ^^^ crc4 (Y % 16) = Z := ⟨_, rfl⟩
          have hcl : crc4 (Y % 16) < 4294967296 := crc4_lt (by omega)
          have hZl : Z < 4294967296 := by rw [← hZ]; exact xor_lt32 (by omega) hcl
          have g3 := xorc_u32 (Y / 16) (crc4 (Y % 16)) (by omega) hcl
          rw [hZ] at hsn g3
          have hm2 : Z % 16 < 16 := by omega
          have k2 := HC.out (Z % 16) hm2
          rw [hf.out (Z % 16) hm2] at k2
          have hcl2 : crc4 (Z % 16) < 4294967296 := crc4_lt (by omega)
          have g5 := xorc_u32 (Z / 16) (crc4 (Z % 16)) (by omega) hcl2
          rw [← hsn] at g5
          have g2 := and15_u32 Y hYl
          have g4 := and15_u32 Z hZl
          obtain ⟨p1, hp1⟩ : ∃ p1, Y % 16 = p1 := ⟨_, rfl⟩
          obtain ⟨p2, hp2⟩ : ∃ p2, Z % 16 = p2 := ⟨_, rfl⟩
          rw [hp1] at g2 g3 k1 hm1
          rw [hp2] at g4 g5 k2 hm2
          have d1 : ((Y / 16 : Nat) : Int) = (Y : Int) / 16 := by omega
          have d2 : ((Z / 16 : Nat) : Int) = (Z : Int) / 16 := by omega
          rw [d1] at g3
          rw [d2] at g5
          obtain ⟨V, hV⟩ : ∃ V, crcRun 4294967295 (l.take (j + 1)) = V := ⟨_, rfl⟩
          rw [hV] at g5
          have HV := Lib.hid hV
          clear hu hsn hXe hY hZ hp1 hp2 hV d1 d2 hcl hcl2
          go_wp2
          exact ⟨⟨j + 1, by omega, by go_num, by rw [HV.out]⟩, by simp [intOf]; omega⟩
        · have hjn : j = n := by omega
          subst hjn
          rw [List.take_of_length_le (by rw [HL.out]; exact Nat.le_refl _)]
          obtain ⟨X, hXe⟩ : ∃ X, crcRun 4294967295 l = X := ⟨_, rfl⟩
          rw [hXe]
          have HX := Lib.hid hXe
          clear hXe
          go_wp2
          exact ⟨⟨1, by omega, by go_num, by rw [← HX.out]; rfl⟩, by simp [intOf]⟩
    · have hk1 : k = 1 := by omega
      subst hk1
      rw [if_neg (by decide)]
      have hX := crcRun_lt (x := 4294967295) l (by omega)
      have hcr : crcOf l = 4294967295 - crcRun 4294967295 l := rfl
      obtain ⟨X, hXe⟩ : ∃ X, crcRun 4294967295 l = X := ⟨_, rfl⟩
      rw [hXe] at hX hcr ⊢
      have HCR := Lib.hid hcr
      clear hcr hXe
      go_wp2
      go_ret
      refine ⟨ret_int ?_, hb2⟩
      rw [HCR.out]
      exact not_u32 X hX
end Go.Proofs.Ytpipgeboddaipaa
