/- Package crc: contracts of table and Of; the reference's Of. -/
import Derived.Test.YtpipgeboddaipaaCrcP
import Derived.Laws.BitsAllLaws
namespace Go.Proofs.Ytpipgeboddaipaa
open Go.RowKit
set_option linter.unusedVariables false
set_option linter.unusedSimpArgs false

/-- The table behind k rounds. -/
def tbV (k j : Nat) : Nat := if j < k then crc4 j else 0
def tb (k : Nat) : Array Value := ((List.range 16).map fun j => Value.int .u32 (tbV k j : Nat)).toArray

theorem tb_size (k : Nat) : (tb k).size = 16 := by simp [tb]
theorem tb_get (k j : Nat) (h : j < 16) : (tb k)[j]? = some (.int .u32 (tbV k j : Nat)) := by simp [tb, List.getElem?_range, h]
theorem tb_set (k : Nat) (h : k < 16) : (tb k).setIfInBounds k (.int .u32 (crc4 k : Nat)) = tb (k + 1) := by
  apply Array.ext_getElem?
  intro j
  rw [Array.getElem?_setIfInBounds]
  by_cases hj : j < 16
  · rw [tb_get _ _ hj, tb_get _ _ hj]
    by_cases e : k = j
    · subst e
      simp [tb_size, hj, tbV]
    · rw [if_neg e]
      simp only [tbV]
      by_cases h1 : j < k
      · rw [if_pos h1, if_pos (by omega)]
      · rw [if_neg h1, if_neg (by omega)]
  · rw [Array.getElem?_eq_none (by rw [tb_size]; omega), Array.getElem?_eq_none (by rw [tb_size]; omega)]
    split
    · rename_i e
      rw [if_neg (by rw [tb_size]; omega)]
    · rfl
theorem tb_zero : tb 0 = #[.int .u32 0, .int .u32 0, .int .u32 0, .int .u32 0, .int .u32 0, .int .u32 0, .int .u32 0, .int .u32 0, .int .u32 0, .int .u32 0, .int .u32 0, .int .u32 0, .int .u32 0, .int .u32 0, .int .u32 0, .int .u32 0] := by rfl

/-- j bits. -/
def crcN (j x : Nat) : Nat := match j with
  | 0 => x
  | j + 1 => crc1 (crcN j x)
theorem crcN_lt (j x : Nat) (h : x < 4294967296) : crcN j x < 4294967296 := by
  induction j with
  | zero => exact h
  | succ j ih => exact crc1_lt ih
theorem and1_u32 (x : Nat) (h : x < 4294967296) : bits BinOp.and IntKind.u32 (x : Int) 1 = ((x % 2 : Nat) : Int) := by
  have e := u32_and_nat x 1 (by omega) (by omega)
  rw [Nat.and_one_is_mod] at e
  exact e
theorem crc1_u32 (x : Nat) (h : x < 4294967296) : bits BinOp.xor IntKind.u32 ((x : Int) / 2) ((x : Int) % 2 * 3988292384) = ((crc1 x : Nat) : Int) := by
  have h1 : ((x : Int) / 2) = ((x / 2 : Nat) : Int) := by omega
  have h2 : ((x : Int) % 2 * 3988292384) = ((x % 2 * 3988292384 : Nat) : Int) := by omega
  rw [h1, h2, u32_xor_nat _ _ (by omega) (by omega)]
  rfl

set_option maxRecDepth 20000 in
set_option maxHeartbeats 4000000 in
theorem table_any (w : World) : Calls Try.prog 37 #[] w fun e w' => e = .returned (.agg (tb 16)) ∧ Below w.heap.size w w' := by
  go_enter Try.func37, Try.ntmps37
  go_wp2
  go_loopw [5] (fun i wr => ∃ k : Nat, k ≤ 16 ∧ i = .int .i64 (k : Int) ∧ wr.heap[w.heap.size]? = some (.cells (tb 0) 81 (0, 0)) ∧ wr.heap[w.heap.size + 1]? = some (.cells (tb k) 81 (0, 0)) ∧ Below w.heap.size w wr) (fun i _ => 16 - (intOf i).toNat)
  case atStart =>
    refine ⟨0, by omega, rfl, ?_, ?_, ((Below.refl _ _).alloc (Nat.le_refl _) _).alloc (by simp) _⟩
    · rw [tb_zero]
      exact blk_alloc (heap_alloc_new w _) _
    · rw [tb_zero]
      have := heap_alloc_new (w.alloc (.cells (tb 0) 81)) (.cells (tb 0) 81)
      simpa [tb_zero] using this
  case round =>
    obtain ⟨k, hk, rfl, hr, ht, hbw⟩ := hrel
    by_cases hlt : k < 16
    · have hkw : IntKind.u32.wrap (k : Int) = (k : Int) := IntWalk.u32_in _ (by omega)
      go_wp2
      go_loop [3, 10] (fun x j => ∃ b : Nat, b ≤ 4 ∧ j = .int .i64 (b : Int) ∧ x = .int .u32 (crcN b k : Nat)) (fun _ j => 4 - (intOf j).toNat)
      case atStart => exact ⟨0, by omega, rfl, rfl⟩
      case round =>
        obtain ⟨b, hb, rfl, rfl⟩ := hrel
        have hx := crcN_lt b k (by omega)
        have h1 := and1_u32 _ hx
        obtain ⟨X, hX⟩ : ∃ X, crcN b k = X := ⟨_, rfl⟩
        rw [hX] at h1 hx ⊢
        by_cases hb4 : b < 4
        · go_wp2
          exact ⟨⟨b + 1, by omega, by go_num, by rw [crc1_u32 X hx, ← hX]; rfl⟩, by simp [intOf]; omega⟩
        · have hb44 : b = 4 := by omega
          subst hb44
          have hXc : crc4 k = X := hX
          have hct := blk_cell ht k
          rw [tb_get k k hlt] at hct
          have hcf := blk_frozen ht k
          have hset := blk_set ht k (.int .u32 (X : Int))
          rw [← hXc, tb_set k hlt, hXc] at hset
          have hset0 := blk_far hr (p := ⟨w.heap.size + 1, k, none⟩) (by simp) (.int .u32 (X : Int))
          have hbn := hbw.setCell (p := ⟨w.heap.size + 1, k, none⟩) (by simp) (.int .u32 (X : Int))
          clear hb hX hXc h1 hr ht hbw
          have k0 : (0 : Int) ≤ (k : Int) := by omega
          go_wp2
          exact ⟨⟨k + 1, by omega, by go_num, hset0, hset, hbn⟩, by simp [intOf]; omega⟩
    · have hk16 : k = 16 := by omega
      subst hk16
      obtain ⟨f, hf⟩ : ∃ f, tbV 16 = f := ⟨_, rfl⟩
      have hc : ∀ j, j < 16 → wr.cell? ⟨w.heap.size + 1, j, none⟩ = some (.int .u32 (f j : Nat)) := by
        intro j hj
        rw [blk_cell ht j, tb_get 16 j hj, hf]
      have hz : ∀ j, j < 16 → wr.cell? ⟨w.heap.size, j, none⟩ = some (.int .u32 ((tbV 0 j : Nat) : Int)) := by
        intro j hj
        rw [blk_cell hr j, tb_get 0 j hj]
      have hfz : ∀ j, wr.frozen? ⟨w.heap.size, j, none⟩ = false := fun j => blk_frozen hr j
      have c0 := hc 0 (by omega)
      have c1 := hc 1 (by omega)
      have c2 := hc 2 (by omega)
      have c3 := hc 3 (by omega)
      have c4 := hc 4 (by omega)
      have c5 := hc 5 (by omega)
      have c6 := hc 6 (by omega)
      have c7 := hc 7 (by omega)
      have c8 := hc 8 (by omega)
      have c9 := hc 9 (by omega)
      have c10 := hc 10 (by omega)
      have c11 := hc 11 (by omega)
      have c12 := hc 12 (by omega)
      have c13 := hc 13 (by omega)
      have c14 := hc 14 (by omega)
      have c15 := hc 15 (by omega)
      clear hc
      clear ht
      go_wp2
      clear c0 c1 c2 c3 c4 c5 c6 c7 c8 c9 c10 c11 c12 c13 c14 c15 hfz hz
      rw [tb_zero] at hr
      have hq := blk_set (blk_set (blk_set (blk_set (blk_set (blk_set (blk_set (blk_set (blk_set (blk_set (blk_set (blk_set (blk_set (blk_set (blk_set (blk_set hr 0 (.int .u32 ((f 0 : Nat) : Int))) 1 (.int .u32 ((f 1 : Nat) : Int))) 2 (.int .u32 ((f 2 : Nat) : Int))) 3 (.int .u32 ((f 3 : Nat) : Int))) 4 (.int .u32 ((f 4 : Nat) : Int))) 5 (.int .u32 ((f 5 : Nat) : Int))) 6 (.int .u32 ((f 6 : Nat) : Int))) 7 (.int .u32 ((f 7 : Nat) : Int))) 8 (.int .u32 ((f 8 : Nat) : Int))) 9 (.int .u32 ((f 9 : Nat) : Int))) 10 (.int .u32 ((f 10 : Nat) : Int))) 11 (.int .u32 ((f 11 : Nat) : Int))) 12 (.int .u32 ((f 12 : Nat) : Int))) 13 (.int .u32 ((f 13 : Nat) : Int))) 14 (.int .u32 ((f 14 : Nat) : Int))) 15 (.int .u32 ((f 15 : Nat) : Int))
      have hb16 := ((((((((((((((((hbw.setCell (p := ⟨w.heap.size, 0, none⟩) (Nat.le_refl _) (.int .u32 ((f 0 : Nat) : Int))).setCell (p := ⟨w.heap.size, 1, none⟩) (Nat.le_refl _) (.int .u32 ((f 1 : Nat) : Int))).setCell (p := ⟨w.heap.size, 2, none⟩) (Nat.le_refl _) (.int .u32 ((f 2 : Nat) : Int))).setCell (p := ⟨w.heap.size, 3, none⟩) (Nat.le_refl _) (.int .u32 ((f 3 : Nat) : Int))).setCell (p := ⟨w.heap.size, 4, none⟩) (Nat.le_refl _) (.int .u32 ((f 4 : Nat) : Int))).setCell (p := ⟨w.heap.size, 5, none⟩) (Nat.le_refl _) (.int .u32 ((f 5 : Nat) : Int))).setCell (p := ⟨w.heap.size, 6, none⟩) (Nat.le_refl _) (.int .u32 ((f 6 : Nat) : Int))).setCell (p := ⟨w.heap.size, 7, none⟩) (Nat.le_refl _) (.int .u32 ((f 7 : Nat) : Int))).setCell (p := ⟨w.heap.size, 8, none⟩) (Nat.le_refl _) (.int .u32 ((f 8 : Nat) : Int))).setCell (p := ⟨w.heap.size, 9, none⟩) (Nat.le_refl _) (.int .u32 ((f 9 : Nat) : Int))).setCell (p := ⟨w.heap.size, 10, none⟩) (Nat.le_refl _) (.int .u32 ((f 10 : Nat) : Int))).setCell (p := ⟨w.heap.size, 11, none⟩) (Nat.le_refl _) (.int .u32 ((f 11 : Nat) : Int))).setCell (p := ⟨w.heap.size, 12, none⟩) (Nat.le_refl _) (.int .u32 ((f 12 : Nat) : Int))).setCell (p := ⟨w.heap.size, 13, none⟩) (Nat.le_refl _) (.int .u32 ((f 13 : Nat) : Int))).setCell (p := ⟨w.heap.size, 14, none⟩) (Nat.le_refl _) (.int .u32 ((f 14 : Nat) : Int))).setCell (p := ⟨w.heap.size, 15, none⟩) (Nat.le_refl _) (.int .u32 ((f 15 : Nat) : Int)))
      simp only [List.setIfInBounds_toArray, List.set_cons_zero, List.set_cons_succ] at hq
      have htb : tb 16 = #[.int .u32 ((f 0 : Nat) : Int), .int .u32 ((f 1 : Nat) : Int), .int .u32 ((f 2 : Nat) : Int), .int .u32 ((f 3 : Nat) : Int), .int .u32 ((f 4 : Nat) : Int), .int .u32 ((f 5 : Nat) : Int), .int .u32 ((f 6 : Nat) : Int), .int .u32 ((f 7 : Nat) : Int), .int .u32 ((f 8 : Nat) : Int), .int .u32 ((f 9 : Nat) : Int), .int .u32 ((f 10 : Nat) : Int), .int .u32 ((f 11 : Nat) : Int), .int .u32 ((f 12 : Nat) : Int), .int .u32 ((f 13 : Nat) : Int), .int .u32 ((f 14 : Nat) : Int), .int .u32 ((f 15 : Nat) : Int)] := by rw [← hf]; rfl
      generalize (World.setCell _ (⟨w.heap.size, 15, none⟩ : Addr) _) = W at hq hb16 ⊢
      have e0 := blk_cell hq 0
      have e1 := blk_cell hq 1
      have e2 := blk_cell hq 2
      have e3 := blk_cell hq 3
      have e4 := blk_cell hq 4
      have e5 := blk_cell hq 5
      have e6 := blk_cell hq 6
      have e7 := blk_cell hq 7
      have e8 := blk_cell hq 8
      have e9 := blk_cell hq 9
      have e10 := blk_cell hq 10
      have e11 := blk_cell hq 11
      have e12 := blk_cell hq 12
      have e13 := blk_cell hq 13
      have e14 := blk_cell hq 14
      have e15 := blk_cell hq 15

      refine bodyPost_ret (v := .agg (tb 16)) ?_ rfl ⟨rfl, hb16⟩
      rw [htb]
      simp [results, Try.results37, go_sem, e0, e1, e2, e3, e4, e5, e6, e7, e8, e9, e10, e11, e12, e13, e14, e15]
end Go.Proofs.Ytpipgeboddaipaa
