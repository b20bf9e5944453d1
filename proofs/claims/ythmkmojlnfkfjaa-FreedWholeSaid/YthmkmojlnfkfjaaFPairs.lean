/- Law 10's helpers pairs, alike. -/
import Derived.Test.YthmkmojlnfkfjaaFAwake
namespace Go.Proofs.Ythmkmojlnfkfjaa
open Go.RowKit
set_option linter.unusedVariables false
set_option linter.unusedSimpArgs false

set_option maxRecDepth 100000 in
set_option maxHeartbeats 4000000 in
theorem pairs_any (w : World) (B : Nat) (A : Option Addr) (n c : Nat) (ps : List FP) (h : Prs w B A n ps) (hBw : B ≤ w.heap.size) (hn : n ≤ 1000000) :
    Calls Try.prog 11 #[.slice A n c] w fun e w' => ∃ Av cv, e = .returned (.slice Av n cv) ∧ w'.ownsRow w.heap.size 51 2 (.slice Av n cv) n (PCs ps) ∧ Below w.heap.size w w' := by
  obtain ⟨ip, pi0, pz0, pz1, pz2⟩ := info_parts info_pair
  have hlen := h.len
  subst hlen
  go_enter Try.func11, Try.ntmps11
  go_wp2_with fail
  go_loopw [3, 4] (fun v i wr => ∃ (k : Nat) (Av : Option Addr) (cv : Nat), k ≤ ps.length ∧ i = .int .i64 (k : Int) ∧ v = .slice Av k cv ∧ wr.ownsRow w.heap.size 51 2 (.slice Av k cv) k (PCs (ps.take k)) ∧ Below w.heap.size w wr) (fun _ i _ => ps.length - (intOf i).toNat)
  case atStart => exact ⟨0, none, 0, Nat.zero_le _, rfl, rfl, World.ownsRow_nil _ _ _ _, Below.refl _ _⟩
  case round =>
    obtain ⟨k, Av, cv, hkn, rfl, rfl, hown, hbw⟩ := hrel
    have hbs := hbw.size
    by_cases hlt : k < ps.length
    · obtain ⟨ad, p, rfl, hB, hp, a0, a1⟩ := (h.below (hbw.mono hBw)).get hlt
      have hBs : B ≤ wr.heap.size := Nat.le_trans hBw hbs
      have hcells : PCs (ps.take (k + 1)) = PCs (ps.take k) ++ [.int .u64 (p.1 : Int), .int .u32 (p.2 : Int)] := by rw [take_succ_some hp, PCs_snoc]
      have HC := Lib.hid hcells
      have hadB : (ad.add (k * 2)).block < B := by rw [block_of_add]; exact hB
      have hS : ∀ w', Below B wr w' → w'.cell? (ad.add (k * 2)) = some (.int .u64 (p.1 : Int)) ∧ w'.cell? ⟨(ad.add (k * 2)).block, (ad.add (k * 2)).off + 1, none⟩ = some (.int .u32 (p.2 : Int)) := fun w' hw =>
        ⟨(hw.cell hadB).trans a0, (hw.cell (p := ⟨(ad.add (k * 2)).block, (ad.add (k * 2)).off + 1, none⟩) hadB).trans a1⟩
      have HS := Lib.hid hS
      clear hcells hS a0 a1 hp
      go_wp2_with fail
      refine wp_region_held_drew (S := (fun w' => w'.cell? (ad.add (k * 2)) = some (.int .u64 (p.1 : Int)) ∧ w'.cell? ⟨(ad.add (k * 2)).block, (ad.add (k * 2)).off + 1, none⟩ = some (.int .u32 (p.2 : Int)))) (by kernel_rfl) ?_ (fun hHeld => ?_)
      · exact HS.out _ (by first | assumption | exact (Below.refl _ _).drew | exact Below.refl _ _ | exact hX7.mono hBs | exact hX8.mono hBw)
      refine takeP (i := 0) rfl (by kernel_rfl) (by kernel_rfl) (by kernel_rfl) (fun _ _ _ h => h) (by rfl) (by assumption) (v := ?_) ?_ ?_
      rotate_left
      · intro w' hSw
        try dsimp only at hSw
        go_simp
        try with_reducible rfl
      try simp only [Act.put, List.setIfInBounds_toArray, List.set_cons_zero, List.set_cons_succ]
      refine takeP (i := 1) rfl (by kernel_rfl) (by kernel_rfl) (by kernel_rfl) (fun _ _ _ h => h) (by rfl) (by assumption) (v := ?_) ?_ ?_
      rotate_left
      · intro w' hSw
        try dsimp only at hSw
        go_simp
        try with_reducible rfl
      try simp only [Act.put, List.setIfInBounds_toArray, List.set_cons_zero, List.set_cons_succ]
      refine takeP (i := 2) rfl (by kernel_rfl) (by kernel_rfl) (by kernel_rfl) (fun _ _ _ h => h) (by rfl) (by assumption) (v := ?_) ?_ ?_
      rotate_left
      · intro w' hSw
        try dsimp only at hSw
        go_simp
        try with_reducible rfl
      try simp only [Act.put, List.setIfInBounds_toArray, List.set_cons_zero, List.set_cons_succ]
      refine takeP (i := 3) rfl (by kernel_rfl) (by kernel_rfl) (by kernel_rfl) (fun _ _ _ h => h) (by rfl) (by assumption) (v := ?_) ?_ ?_
      rotate_left
      · intro w' hSw
        try dsimp only at hSw
        go_simp
        try with_reducible rfl
      try simp only [Act.put, List.setIfInBounds_toArray, List.set_cons_zero, List.set_cons_succ]
      refine takeP (i := 4) rfl (by kernel_rfl) (by kernel_rfl) (by kernel_rfl) (fun _ _ _ h => h) (by rfl) (by assumption) (v := ?_) ?_ ?_
      rotate_left
      · intro w' hSw
        try dsimp only at hSw
        go_simp
        try with_reducible rfl
      try simp only [Act.put, List.setIfInBounds_toArray, List.set_cons_zero, List.set_cons_succ]
      refine takeP (i := 5) rfl (by kernel_rfl) (by kernel_rfl) (by kernel_rfl) (fun _ _ _ h => h) (by rfl) (by assumption) (v := ?_) ?_ ?_
      rotate_left
      · intro w' hSw
        try dsimp only at hSw
        go_simp
        try with_reducible rfl
      try simp only [Act.put, List.setIfInBounds_toArray, List.set_cons_zero, List.set_cons_succ]
      refine takeP (i := 6) rfl (by kernel_rfl) (by kernel_rfl) (by kernel_rfl) (fun _ _ _ h => h) (by rfl) (by assumption) (v := ?_) ?_ ?_
      rotate_left
      · intro w' hSw
        try dsimp only at hSw
        go_simp
        try with_reducible rfl
      try simp only [Act.put, List.setIfInBounds_toArray, List.set_cons_zero, List.set_cons_succ]
      refine takeP (i := 7) rfl (by kernel_rfl) (by kernel_rfl) (by kernel_rfl) (fun _ _ _ h => h) (by rfl) (by assumption) (v := ?_) ?_ ?_
      rotate_left
      · intro w' hSw
        try dsimp only at hSw
        go_simp
        try with_reducible rfl
      try simp only [Act.put, List.setIfInBounds_toArray, List.set_cons_zero, List.set_cons_succ]
      refine takeP (i := 8) rfl (by kernel_rfl) (by kernel_rfl) (by kernel_rfl) (fun _ _ _ h => h) (by rfl) (by assumption) (v := ?_) ?_ ?_
      rotate_left
      · intro w' hSw
        try dsimp only at hSw
        go_simp
        try with_reducible rfl
      try simp only [Act.put, List.setIfInBounds_toArray, List.set_cons_zero, List.set_cons_succ]
      refine takeP (i := 9) rfl (by kernel_rfl) (by kernel_rfl) (by kernel_rfl) (fun _ _ _ h => h) (by rfl) (by assumption) (v := ?_) ?_ ?_
      rotate_left
      · intro w' hSw
        try dsimp only at hSw
        go_simp
        try with_reducible rfl
      try simp only [Act.put, List.setIfInBounds_toArray, List.set_cons_zero, List.set_cons_succ]
      refine takeP (i := 10) rfl (by kernel_rfl) (by kernel_rfl) (by kernel_rfl) (fun _ _ _ h => h) (by rfl) (by assumption) (v := ?_) ?_ ?_
      rotate_left
      · intro w' hSw
        try dsimp only at hSw
        go_simp
        try with_reducible rfl
      try simp only [Act.put, List.setIfInBounds_toArray, List.set_cons_zero, List.set_cons_succ]
      refine takeP (i := 11) rfl (by kernel_rfl) (by kernel_rfl) (by kernel_rfl) (fun _ _ _ h => h) (by rfl) (by assumption) (v := ?_) ?_ ?_
      rotate_left
      · intro w' hSw
        try dsimp only at hSw
        go_simp
        try with_reducible rfl
      try simp only [Act.put, List.setIfInBounds_toArray, List.set_cons_zero, List.set_cons_succ]
      refine carryP (i := 12) rfl (by kernel_rfl) (by rfl) (fun K hK => ?_)
      go_simp
      have hX7 : Below wr.heap.size wr (wr.alloc (.cells #[.int .u64 (p.1 : Int), .int .u32 (p.2 : Int)] 51)).drew := ((Below.refl wr.heap.size wr).alloc (Nat.le_refl _) _).drew
      refine hK.out _ _ ?_ (fun hHeld => ?_)
      · exact HS.out _ (by first | assumption | exact (Below.refl _ _).drew | exact Below.refl _ _ | exact hX7.mono hBs | exact hX8.mono hBw)
      clear hK K
      try simp only [Act.put, List.setIfInBounds_toArray, List.set_cons_zero, List.set_cons_succ]
      refine carryP (i := 13) rfl (by kernel_rfl) (by rfl) (fun K hK => ?_)
      refine wp_append_any _ (.tmp 11) (.tmp 23) _ rfl w.heap.size 51 ip _ 2 16 Try.underlying28 pi0 pz0 pz1 pz2 rfl (by omega) (.slice Av k cv) k _ (by rfl) (hown.alloc _).drew (wr.heap.size + 1) (some ⟨wr.heap.size, 0, none⟩) 1 1 [.int .u64 (p.1 : Int), .int .u32 (p.2 : Int)] (by rfl) (Reads.two _ _ _ _).drew (by simp [Value.oneCell']) (by unfold maxLen; omega) (by omega) (by simp; omega) ?_
      intro v8 w8 hown8 hg8 hat8
      obtain ⟨A8, c8, rfl⟩ := own_slice hown8
      have hX8 : Below w.heap.size wr w8 := (hX7.mono hbs).grown hg8 (by simp; omega) (fun k hk => own_base hown k hk)
      refine hK.out _ _ ?_ (fun hHeld => ?_)
      · exact HS.out _ (by first | assumption | exact (Below.refl _ _).drew | exact Below.refl _ _ | exact hX7.mono hBs | exact hX8.mono hBw)
      clear hK K
      try simp only [Act.put, List.setIfInBounds_toArray, List.set_cons_zero, List.set_cons_succ]
      refine takeP (i := 14) rfl (by kernel_rfl) (by kernel_rfl) (by kernel_rfl) (fun _ _ _ h => h) (by rfl) (by assumption) (v := ?_) ?_ ?_
      rotate_left
      · intro w' hSw
        try dsimp only at hSw
        go_simp
        try with_reducible rfl
      try simp only [Act.put, List.setIfInBounds_toArray, List.set_cons_zero, List.set_cons_succ]
      refine wpAnyH_done (by kernel_rfl) ?_ _
      go_wp2_with fail
      exact ⟨⟨k + 1, A8, c8, by omega, by go_num, rfl, by rw [HC.out]; exact hown8, hbw.trans hX8⟩, by simp [intOf]; omega⟩
    · obtain rfl : k = ps.length := by omega
      rw [List.take_length] at hown
      go_wp2_with fail
      go_ret
      exact ⟨Av, cv, rfl, hown, hbw⟩

set_option maxRecDepth 100000 in
set_option maxHeartbeats 4000000 in
theorem alike_any (w : World) (B B' : Nat) (A A' : Option Addr) (n c n' c' : Nat) (ps qs : List FP) (h : Prs w B A n ps) (h' : Prs w B' A' n' qs) (hBw : B ≤ w.heap.size) (hBw' : B' ≤ w.heap.size) (hn : n ≤ 1000000) (hn' : n' ≤ 1000000) (he : ps = qs) :
    Calls Try.prog 13 #[.slice A n c, .slice A' n' c'] w fun e w' => e = .returned (.bool true) ∧ Below w.heap.size w w' := by
  subst he
  have hl := h.len
  have hl' := h'.len
  subst hl
  subst hl'
  go_enter Try.func13, Try.ntmps13
  go_wp2_with fail
  go_loopw [5] (fun i wr => ∃ k : Nat, k ≤ ps.length ∧ i = .int .i64 (k : Int) ∧ Below w.heap.size w wr) (fun i _ => ps.length - (intOf i).toNat)
  case atStart => exact ⟨0, Nat.zero_le _, rfl, Below.refl _ _⟩
  case round =>
    obtain ⟨k, hkn, rfl, hbw⟩ := hrel
    by_cases hlt : k < ps.length
    · obtain ⟨ad, p, rfl, hB, hp, a0, a1⟩ := (h.below (hbw.mono hBw)).get hlt
      obtain ⟨ad', p', rfl, hB', hp', b0, b1⟩ := (h'.below (hbw.mono hBw')).get hlt
      have hbs := hbw.size
      obtain rfl : p = p' := Option.some.inj (hp.symm.trans hp')
      have hS : (wr.cell? (ad.add (k * 2)) = some (.int .u64 (p.1 : Int)) ∧ wr.cell? ⟨(ad.add (k * 2)).block, (ad.add (k * 2)).off + 1, none⟩ = some (.int .u32 (p.2 : Int))) ∧ (wr.cell? (ad'.add (k * 2)) = some (.int .u64 (p.1 : Int)) ∧ wr.cell? ⟨(ad'.add (k * 2)).block, (ad'.add (k * 2)).off + 1, none⟩ = some (.int .u32 (p.2 : Int))) := ⟨⟨a0, a1⟩, b0, b1⟩
      have HS := Lib.hid (fun w' (hw : Below wr.heap.size wr w') => (show (w'.cell? (ad.add (k * 2)) = some (.int .u64 (p.1 : Int)) ∧ w'.cell? ⟨(ad.add (k * 2)).block, (ad.add (k * 2)).off + 1, none⟩ = some (.int .u32 (p.2 : Int))) ∧ (w'.cell? (ad'.add (k * 2)) = some (.int .u64 (p.1 : Int)) ∧ w'.cell? ⟨(ad'.add (k * 2)).block, (ad'.add (k * 2)).off + 1, none⟩ = some (.int .u32 (p.2 : Int))) from
        ⟨⟨(hw.cell (by rw [block_of_add]; omega)).trans a0, (hw.cell (p := ⟨(ad.add (k * 2)).block, (ad.add (k * 2)).off + 1, none⟩) (by rw [block_of_add]; omega)).trans a1⟩,
          (hw.cell (by rw [block_of_add]; omega)).trans b0, (hw.cell (p := ⟨(ad'.add (k * 2)).block, (ad'.add (k * 2)).off + 1, none⟩) (by rw [block_of_add]; omega)).trans b1⟩))
      clear hS a0 a1 b0 b1 hp hp'
      go_wp2_with fail
      refine wp_region_held_drew (S := (fun w' => (w'.cell? (ad.add (k * 2)) = some (.int .u64 (p.1 : Int)) ∧ w'.cell? ⟨(ad.add (k * 2)).block, (ad.add (k * 2)).off + 1, none⟩ = some (.int .u32 (p.2 : Int))) ∧ (w'.cell? (ad'.add (k * 2)) = some (.int .u64 (p.1 : Int)) ∧ w'.cell? ⟨(ad'.add (k * 2)).block, (ad'.add (k * 2)).off + 1, none⟩ = some (.int .u32 (p.2 : Int))))) (by kernel_rfl) ?_ (fun hHeld => ?_)
      · exact HS.out _ (by first | assumption | exact (Below.refl _ _).drew | exact Below.refl _ _)
      refine takeP (i := 0) rfl (by kernel_rfl) (by kernel_rfl) (by kernel_rfl) (fun _ _ _ h => h) (by rfl) (by assumption) (v := ?_) ?_ ?_
      rotate_left
      · intro w' hSw
        try dsimp only at hSw
        go_simp
        try with_reducible rfl
      try simp only [Act.put, List.setIfInBounds_toArray, List.set_cons_zero, List.set_cons_succ]
      refine takeP (i := 1) rfl (by kernel_rfl) (by kernel_rfl) (by kernel_rfl) (fun _ _ _ h => h) (by rfl) (by assumption) (v := ?_) ?_ ?_
      rotate_left
      · intro w' hSw
        try dsimp only at hSw
        go_simp
        try with_reducible rfl
      try simp only [Act.put, List.setIfInBounds_toArray, List.set_cons_zero, List.set_cons_succ]
      refine takeP (i := 2) rfl (by kernel_rfl) (by kernel_rfl) (by kernel_rfl) (fun _ _ _ h => h) (by rfl) (by assumption) (v := ?_) ?_ ?_
      rotate_left
      · intro w' hSw
        try dsimp only at hSw
        go_simp
        try with_reducible rfl
      try simp only [Act.put, List.setIfInBounds_toArray, List.set_cons_zero, List.set_cons_succ]
      refine takeP (i := 3) rfl (by kernel_rfl) (by kernel_rfl) (by kernel_rfl) (fun _ _ _ h => h) (by rfl) (by assumption) (v := ?_) ?_ ?_
      rotate_left
      · intro w' hSw
        try dsimp only at hSw
        go_simp
        try with_reducible rfl
      try simp only [Act.put, List.setIfInBounds_toArray, List.set_cons_zero, List.set_cons_succ]
      refine takeP (i := 4) rfl (by kernel_rfl) (by kernel_rfl) (by kernel_rfl) (fun _ _ _ h => h) (by rfl) (by assumption) (v := ?_) ?_ ?_
      rotate_left
      · intro w' hSw
        try dsimp only at hSw
        go_simp
        try with_reducible rfl
      try simp only [Act.put, List.setIfInBounds_toArray, List.set_cons_zero, List.set_cons_succ]
      refine takeP (i := 5) rfl (by kernel_rfl) (by kernel_rfl) (by kernel_rfl) (fun _ _ _ h => h) (by rfl) (by assumption) (v := ?_) ?_ ?_
      rotate_left
      · intro w' hSw
        try dsimp only at hSw
        go_simp
        try with_reducible rfl
      try simp only [Act.put, List.setIfInBounds_toArray, List.set_cons_zero, List.set_cons_succ]
      refine takeP (i := 6) rfl (by kernel_rfl) (by kernel_rfl) (by kernel_rfl) (fun _ _ _ h => h) (by rfl) (by assumption) (v := ?_) ?_ ?_
      rotate_left
      · intro w' hSw
        try dsimp only at hSw
        go_simp
        try with_reducible rfl
      try simp only [Act.put, List.setIfInBounds_toArray, List.set_cons_zero, List.set_cons_succ]
      refine takeP (i := 7) rfl (by kernel_rfl) (by kernel_rfl) (by kernel_rfl) (fun _ _ _ h => h) (by rfl) (by assumption) (v := ?_) ?_ ?_
      rotate_left
      · intro w' hSw
        try dsimp only at hSw
        go_simp
        try with_reducible rfl
      try simp only [Act.put, List.setIfInBounds_toArray, List.set_cons_zero, List.set_cons_succ]
      refine takeP (i := 8) rfl (by kernel_rfl) (by kernel_rfl) (by kernel_rfl) (fun _ _ _ h => h) (by rfl) (by assumption) (v := ?_) ?_ ?_
      rotate_left
      · intro w' hSw
        try dsimp only at hSw
        go_simp
        try with_reducible rfl
      try simp only [Act.put, List.setIfInBounds_toArray, List.set_cons_zero, List.set_cons_succ]
      refine takeP (i := 9) rfl (by kernel_rfl) (by kernel_rfl) (by kernel_rfl) (fun _ _ _ h => h) (by rfl) (by assumption) (v := ?_) ?_ ?_
      rotate_left
      · intro w' hSw
        try dsimp only at hSw
        go_simp
        try with_reducible rfl
      try simp only [Act.put, List.setIfInBounds_toArray, List.set_cons_zero, List.set_cons_succ]
      refine takeP (i := 10) rfl (by kernel_rfl) (by kernel_rfl) (by kernel_rfl) (fun _ _ _ h => h) (by rfl) (by assumption) (v := ?_) ?_ ?_
      rotate_left
      · intro w' hSw
        try dsimp only at hSw
        go_simp
        try with_reducible rfl
      try simp only [Act.put, List.setIfInBounds_toArray, List.set_cons_zero, List.set_cons_succ]
      refine takeP (i := 11) rfl (by kernel_rfl) (by kernel_rfl) (by kernel_rfl) (fun _ _ _ h => h) (by rfl) (by assumption) (v := ?_) ?_ ?_
      rotate_left
      · intro w' hSw
        try dsimp only at hSw
        go_simp
        try with_reducible rfl
      try simp only [Act.put, List.setIfInBounds_toArray, List.set_cons_zero, List.set_cons_succ]
      refine takeP (i := 12) rfl (by kernel_rfl) (by kernel_rfl) (by kernel_rfl) (fun _ _ _ h => h) (by rfl) (by assumption) (v := ?_) ?_ ?_
      rotate_left
      · intro w' hSw
        try dsimp only at hSw
        go_simp
        try with_reducible rfl
      try simp only [Act.put, List.setIfInBounds_toArray, List.set_cons_zero, List.set_cons_succ]
      refine takeP (i := 13) rfl (by kernel_rfl) (by kernel_rfl) (by kernel_rfl) (fun _ _ _ h => h) (by rfl) (by assumption) (v := ?_) ?_ ?_
      rotate_left
      · intro w' hSw
        try dsimp only at hSw
        go_simp
        try with_reducible rfl
      try simp only [Act.put, List.setIfInBounds_toArray, List.set_cons_zero, List.set_cons_succ]
      refine takeP (i := 14) rfl (by kernel_rfl) (by kernel_rfl) (by kernel_rfl) (fun _ _ _ h => h) (by rfl) (by assumption) (v := ?_) ?_ ?_
      rotate_left
      · intro w' hSw
        try dsimp only at hSw
        go_simp
        try with_reducible rfl
      try simp only [Act.put, List.setIfInBounds_toArray, List.set_cons_zero, List.set_cons_succ]
      refine takeP (i := 15) rfl (by kernel_rfl) (by kernel_rfl) (by kernel_rfl) (fun _ _ _ h => h) (by rfl) (by assumption) (v := ?_) ?_ ?_
      rotate_left
      · intro w' hSw
        try dsimp only at hSw
        go_simp
        try with_reducible rfl
      try simp only [Act.put, List.setIfInBounds_toArray, List.set_cons_zero, List.set_cons_succ]
      refine takeP (i := 16) rfl (by kernel_rfl) (by kernel_rfl) (by kernel_rfl) (fun _ _ _ h => h) (by rfl) (by assumption) (v := ?_) ?_ ?_
      rotate_left
      · intro w' hSw
        try dsimp only at hSw
        go_simp
        try with_reducible rfl
      try simp only [Act.put, List.setIfInBounds_toArray, List.set_cons_zero, List.set_cons_succ]
      refine takeP (i := 17) rfl (by kernel_rfl) (by kernel_rfl) (by kernel_rfl) (fun _ _ _ h => h) (by rfl) (by assumption) (v := ?_) ?_ ?_
      rotate_left
      · intro w' hSw
        try dsimp only at hSw
        go_simp
        try with_reducible rfl
      try simp only [Act.put, List.setIfInBounds_toArray, List.set_cons_zero, List.set_cons_succ]
      refine takeP (i := 18) rfl (by kernel_rfl) (by kernel_rfl) (by kernel_rfl) (fun _ _ _ h => h) (by rfl) (by assumption) (v := ?_) ?_ ?_
      rotate_left
      · intro w' hSw
        try dsimp only at hSw
        go_simp
        try with_reducible rfl
      try simp only [Act.put, List.setIfInBounds_toArray, List.set_cons_zero, List.set_cons_succ]
      refine takeP (i := 19) rfl (by kernel_rfl) (by kernel_rfl) (by kernel_rfl) (fun _ _ _ h => h) (by rfl) (by assumption) (v := ?_) ?_ ?_
      rotate_left
      · intro w' hSw
        try dsimp only at hSw
        go_simp
        try with_reducible rfl
      try simp only [Act.put, List.setIfInBounds_toArray, List.set_cons_zero, List.set_cons_succ]
      refine takeP (i := 20) rfl (by kernel_rfl) (by kernel_rfl) (by kernel_rfl) (fun _ _ _ h => h) (by rfl) (by assumption) (v := ?_) ?_ ?_
      rotate_left
      · intro w' hSw
        try dsimp only at hSw
        go_simp
        try with_reducible rfl
      try simp only [Act.put, List.setIfInBounds_toArray, List.set_cons_zero, List.set_cons_succ]
      refine takeP (i := 21) rfl (by kernel_rfl) (by kernel_rfl) (by kernel_rfl) (fun _ _ _ h => h) (by rfl) (by assumption) (v := ?_) ?_ ?_
      rotate_left
      · intro w' hSw
        try dsimp only at hSw
        go_simp
        try with_reducible rfl
      try simp only [Act.put, List.setIfInBounds_toArray, List.set_cons_zero, List.set_cons_succ]
      refine takeP (i := 22) rfl (by kernel_rfl) (by kernel_rfl) (by kernel_rfl) (fun _ _ _ h => h) (by rfl) (by assumption) (v := ?_) ?_ ?_
      rotate_left
      · intro w' hSw
        try dsimp only at hSw
        go_simp
        try with_reducible rfl
      try simp only [Act.put, List.setIfInBounds_toArray, List.set_cons_zero, List.set_cons_succ]
      refine takeP (i := 23) rfl (by kernel_rfl) (by kernel_rfl) (by kernel_rfl) (fun _ _ _ h => h) (by rfl) (by assumption) (v := ?_) ?_ ?_
      rotate_left
      · intro w' hSw
        try dsimp only at hSw
        go_simp
        try with_reducible rfl
      try simp only [Act.put, List.setIfInBounds_toArray, List.set_cons_zero, List.set_cons_succ]
      refine wpAnyH_done (by kernel_rfl) ?_ _
      go_wp2_with fail
      exact ⟨⟨k + 1, by omega, by go_num, hbw.trans ((Below.refl _ _).drew.mono hbs)⟩, by simp [intOf]; omega⟩
    · obtain rfl : k = ps.length := by omega
      go_wp2_with fail
      go_ret
      exact ⟨rfl, hbw⟩

end Go.Proofs.Ythmkmojlnfkfjaa
