/- freed.Gather. -/
import Derived.Test.YthmkmojlnfkfjaaFGatherP
namespace Go.Proofs.Ythmkmojlnfkfjaa
open Go.RowKit
set_option linter.unusedVariables false
set_option linter.unusedSimpArgs false

set_option maxRecDepth 100000 in
set_option maxHeartbeats 4000000 in
theorem fgather_any (w : World) (B : Nat) (A : Option Addr) (n c : Nat) (ps : List FP) (h : Prs w B A n ps) (hBw : B ≤ w.heap.size) (hn : n ≤ 1000000) :
    Calls Try.prog 24 #[.slice A n c] w fun e w' => ∃ Ao no co, e = .returned (.slice Ao no co) ∧ Recs w' w'.heap.size Ao no (fGa ps) ∧ Caps w' Ao no co (fGa ps) ∧ Below w.heap.size w w' := by
  obtain ⟨ir, ri0, rz0, rz1, rz2⟩ := info_parts info_rec
  obtain ⟨iu, ui0, uz0, uz1, uz2⟩ := info_parts info_page
  have hlen := h.len
  subst hlen
  go_enter Try.func24, Try.ntmps24
  go_wp2_with fail
  go_loopw [3, 10] (fun v i wr => ∃ (k : Nat) (Ao : Option Addr) (no co : Nat), k ≤ ps.length ∧ i = .int .i64 (k : Int) ∧ v = .slice Ao no co ∧ no ≤ k ∧ GSo w wr k Ao no co (fGa (ps.take k)) ∧ Below w.heap.size w wr) (fun _ i _ => ps.length - (intOf i).toNat)
  case atStart => exact ⟨0, none, 0, 0, Nat.zero_le _, rfl, rfl, Nat.le_refl _, GSo.nil_ _ _ _, Below.refl _ _⟩
  case round =>
    obtain ⟨k, Ao, no, co, hkn, rfl, rfl, hnk, hgo0, hbw⟩ := hrel
    have hbs := hbw.size
    by_cases hlt : k < ps.length
    · obtain ⟨ad, p, rfl, hB, hp, a0, a1⟩ := (h.below (hbw.mono hBw)).get hlt
      have hbW := hbw.alloc hbs (.cells #[.int .u64 (p.1 : Int), .int .u32 (p.2 : Int)] 51)
      have hq0 := heap_alloc_new wr (.cells #[.int .u64 (p.1 : Int), .int .u32 (p.2 : Int)] 51)
      have hgW := hgo0.below ((Below.refl wr.heap.size wr).alloc (Nat.le_refl _) (.cells #[.int .u64 (p.1 : Int), .int .u32 (p.2 : Int)] 51))
      have hfs : fGa (ps.take (k + 1)) = gaStep (fGa (ps.take k)) p := by rw [take_succ_some hp, fGa_snoc]
      have HF := Lib.hid hfs
      clear hfs hp hgo0
      go_wp2_with fail
      obtain ⟨q, hq⟩ : ∃ q, wr.heap.size = q := ⟨_, rfl⟩
      rw [hq] at hq0 ⊢
      generalize wr.alloc (.cells #[.int .u64 (p.1 : Int), .int .u32 (p.2 : Int)] 51) = W at hbW hq0 hgW ⊢
      clear a0 a1 hq hbw
      have hbox : ∀ w', Below W.heap.size W w' → w'.cell? ⟨q, 0, none⟩ = some (.int .u64 (p.1 : Int)) ∧ w'.cell? ⟨q, 1, none⟩ = some (.int .u32 (p.2 : Int)) := fun w' hw => ⟨blk_cell (blk_below hq0 hw (blk_lt hq0)) 0, blk_cell (blk_below hq0 hw (blk_lt hq0)) 1⟩
      have hgWd := hgW.below (Below.refl W.heap.size W).drew
      have hbWd : Below w.heap.size w W.drew := hbW.drew
      have hq0d : W.drew.heap[q]? = some (.cells #[.int .u64 (p.1 : Int), .int .u32 (p.2 : Int)] 51 (0, 0)) := hq0
      rcases hgW with ⟨hrs, rfl, rfl, rfl⟩ | ⟨init, t, pl, gy, cs0, cur, Al, nl, cl, b, hrs, rfl, rfl, hm⟩
      · have HG : Hid (fGa (ps.take (k + 1)) = fGa (ps.take k) ++ [(p.1, [] ++ [p.2])]) := Lib.hid (by rw [HF.out, hrs]; rfl)
        have HS := Lib.hid hbox
        clear hrs hbox hq0 hbW
        have hgW := hgWd
        have hbW := hbWd
        have hq0 := hq0d
        clear hgWd hbWd hq0d
        refine wp_region_held_drew (S := (fun w' => w'.cell? ⟨q, 0, none⟩ = some (.int .u64 (p.1 : Int)) ∧ w'.cell? ⟨q, 1, none⟩ = some (.int .u32 (p.2 : Int)))) (by kernel_rfl) ?_ (fun hHeld => ?_)
        · exact HS.out _ (by first | assumption | exact (Below.refl _ _).drew | exact Below.refl _ _)
        refine takeP (i := 0) rfl (by kernel_rfl) (by kernel_rfl) (by kernel_rfl) (fun _ _ _ h => h) (by rfl) (by assumption) (v := ?_) ?_ ?_
        rotate_left
        · intro w' hSw
          try dsimp only at hSw
          go_simp
          try with_reducible rfl
        try simp only [Act.put, List.setIfInBounds_toArray, List.set_cons_zero, List.set_cons_succ]
        refine takeP (i := 1) rfl (by kernel_rfl) (by kernel_rfl) (by kernel_rfl) (fun _ _ _ h => h) (by rfl) (by assumption) (v := ?_) ?_ ?_
        rotate_left
        · intro w' hSw
          try dsimp only at hSw
          go_simp
          try with_reducible rfl
        try simp only [Act.put, List.setIfInBounds_toArray, List.set_cons_zero, List.set_cons_succ]
        refine takeP (i := 2) rfl (by kernel_rfl) (by kernel_rfl) (by kernel_rfl) (fun _ _ _ h => h) (by rfl) (by assumption) (v := ?_) ?_ ?_
        rotate_left
        · intro w' hSw
          try dsimp only at hSw
          go_simp
          try with_reducible rfl
        try simp only [Act.put, List.setIfInBounds_toArray, List.set_cons_zero, List.set_cons_succ]
        refine takeN (i := 3) rfl (by kernel_rfl) (by kernel_rfl) (by kernel_rfl) (fun _ _ _ h => h) (by rfl) (by assumption) ?_
        try simp only [Act.put, List.setIfInBounds_toArray, List.set_cons_zero, List.set_cons_succ]
        refine takeN (i := 4) rfl (by kernel_rfl) (by kernel_rfl) (by kernel_rfl) (fun _ _ _ h => h) (by rfl) (by assumption) ?_
        try simp only [Act.put, List.setIfInBounds_toArray, List.set_cons_zero, List.set_cons_succ]
        refine takeN (i := 5) rfl (by kernel_rfl) (by kernel_rfl) (by kernel_rfl) (fun _ _ _ h => h) (by rfl) (by assumption) ?_
        try simp only [Act.put, List.setIfInBounds_toArray, List.set_cons_zero, List.set_cons_succ]
        refine takeN (i := 6) rfl (by kernel_rfl) (by kernel_rfl) (by kernel_rfl) (fun _ _ _ h => h) (by rfl) (by assumption) ?_
        try simp only [Act.put, List.setIfInBounds_toArray, List.set_cons_zero, List.set_cons_succ]
        refine takeN (i := 7) rfl (by kernel_rfl) (by kernel_rfl) (by kernel_rfl) (fun _ _ _ h => h) (by rfl) (by assumption) ?_
        try simp only [Act.put, List.setIfInBounds_toArray, List.set_cons_zero, List.set_cons_succ]
        refine takeN (i := 8) rfl (by kernel_rfl) (by kernel_rfl) (by kernel_rfl) (fun _ _ _ h => h) (by rfl) (by assumption) ?_
        try simp only [Act.put, List.setIfInBounds_toArray, List.set_cons_zero, List.set_cons_succ]
        refine takeN (i := 9) rfl (by kernel_rfl) (by kernel_rfl) (by kernel_rfl) (fun _ _ _ h => h) (by rfl) (by assumption) ?_
        try simp only [Act.put, List.setIfInBounds_toArray, List.set_cons_zero, List.set_cons_succ]
        refine takeN (i := 10) rfl (by kernel_rfl) (by kernel_rfl) (by kernel_rfl) (fun _ _ _ h => h) (by rfl) (by assumption) ?_
        try simp only [Act.put, List.setIfInBounds_toArray, List.set_cons_zero, List.set_cons_succ]
        refine takeN (i := 11) rfl (by kernel_rfl) (by kernel_rfl) (by kernel_rfl) (fun _ _ _ h => h) (by rfl) (by assumption) ?_
        try simp only [Act.put, List.setIfInBounds_toArray, List.set_cons_zero, List.set_cons_succ]
        refine takeP (i := 12) rfl (by kernel_rfl) (by kernel_rfl) (by kernel_rfl) (fun _ _ _ h => h) (by rfl) (by assumption) (v := ?_) ?_ ?_
        rotate_left
        · intro w' hSw
          try dsimp only at hSw
          go_simp
          try with_reducible rfl
        try simp only [Act.put, List.setIfInBounds_toArray, List.set_cons_zero, List.set_cons_succ]
        refine wpAnyH_done (by kernel_rfl) ?_ _
        generalize W.drew = W2 at hgW hbW hq0 ⊢
        obtain ⟨init, hin⟩ : ∃ init, fGa (ps.take k) = init := ⟨_, rfl⟩
        rw [hin] at hgW HG
        clear hin HF HS
        obtain ⟨cso, hown0, hgp0⟩ := hgW.row hbW.size
        have hl0 := hgW.len
        have hzW := hbW.size
        have q0 := blk_cell hq0 0
        clear hgW
        go_wp2_with (first
          | (at_builtin; refine wpList_append_any _ rfl (.tmp 29) (.tmp 33) _ rfl w.heap.size 69 ir _ 2 32 Try.underlying55 ri0 rz0 rz1 rz2 rfl (by omega) (.slice none (0) 0) (0) cso rfl (hown0.alloc _) (W2.heap.size + 1) (some ⟨W2.heap.size, 0, none⟩) 1 1 [.int .u64 (p.1 : Int), .slice none 0 0] rfl (Reads.two _ _ _ _) (by simp [Value.oneCell']) (by unfold maxLen; omega) (by omega) (by simp; omega) ?_; intro v5 w5 hown5 hg5 hat5; obtain ⟨gy, cur, Al, nl, cl, b, j, c5, rfl, hj, hm, hb5, hoth⟩ := gmid_new (K := k) hl0 hzW hown0 hgp0 hg5 hown5; have hq5 := hoth q _ _ (by decide) hq0; have hbW5 := hbW.trans hb5; clear hown0 hgp0 hg5 hown5 hat5 hq0 hbW hoth hb5 q0 hzW; have hq0 := hq5; have hbW := hbW5; clear hq5 hbW5))
        have hc1 := hm.cur1
        have hgq := blk_lt hq0
        have hgyl := blk_lt hm.blk
        have hbWb := hm.bW
        have hnlk := hm.nlK
        have hjk : j ≤ k := by omega
        rw [hj] at hc1
        have hwj : IntKind.i64.wrap (j : Int) = (j : Int) := IntWalk.i64_in _ (by omega)
        have hj0 : (0 : Int) ≤ (j : Int) := by omega
        have hj1 : (j : Int) < (j : Int) + 1 := by omega
        have z0 : w5.drew.cell? ⟨gy, j * 2 + 1, none⟩ = some (.slice Al nl cl) := (blk_cell (show w5.drew.heap[gy]? = some (.cells cur 69 (0, 0)) from hm.blk) (j * 2 + 1)).trans hc1
        have hS0 : w5.cell? ⟨q, 0, none⟩ = some (.int .u64 (p.1 : Int)) ∧ w5.cell? ⟨q, 1, none⟩ = some (.int .u32 (p.2 : Int)) := ⟨blk_cell hq0 0, blk_cell hq0 1⟩
        have HJ := Lib.hid hj
        clear hj
        go_wp2_with fail
        refine wp_region_held_drew (S := (fun w' => w'.cell? ⟨q, 0, none⟩ = some (.int .u64 (p.1 : Int)) ∧ w'.cell? ⟨q, 1, none⟩ = some (.int .u32 (p.2 : Int)))) (by kernel_rfl) ?_ (fun hHeld => ?_)
        · first | exact hSst | exact hS8 | exact hS7 | exact hS0
        refine takeP (i := 0) rfl (by kernel_rfl) (by kernel_rfl) (by kernel_rfl) (fun _ _ _ h => h) (by rfl) (by assumption) (v := ?_) ?_ ?_
        rotate_left
        · intro w' hSw
          try dsimp only at hSw
          go_simp
          try with_reducible rfl
        try simp only [Act.put, List.setIfInBounds_toArray, List.set_cons_zero, List.set_cons_succ]
        refine takeP (i := 1) rfl (by kernel_rfl) (by kernel_rfl) (by kernel_rfl) (fun _ _ _ h => h) (by rfl) (by assumption) (v := ?_) ?_ ?_
        rotate_left
        · intro w' hSw
          try dsimp only at hSw
          go_simp
          try with_reducible rfl
        try simp only [Act.put, List.setIfInBounds_toArray, List.set_cons_zero, List.set_cons_succ]
        refine takeP (i := 2) rfl (by kernel_rfl) (by kernel_rfl) (by kernel_rfl) (fun _ _ _ h => h) (by rfl) (by assumption) (v := ?_) ?_ ?_
        rotate_left
        · intro w' hSw
          try dsimp only at hSw
          go_simp
          try with_reducible rfl
        try simp only [Act.put, List.setIfInBounds_toArray, List.set_cons_zero, List.set_cons_succ]
        refine takeP (i := 3) rfl (by kernel_rfl) (by kernel_rfl) (by kernel_rfl) (fun _ _ _ h => h) (by rfl) (by assumption) (v := ?_) ?_ ?_
        rotate_left
        · intro w' hSw
          try dsimp only at hSw
          go_simp
          try with_reducible rfl
        try simp only [Act.put, List.setIfInBounds_toArray, List.set_cons_zero, List.set_cons_succ]
        refine takeP (i := 5) rfl (by kernel_rfl) (by kernel_rfl) (by kernel_rfl) (fun _ _ _ h => h) (by rfl) (by assumption) (v := ?_) ?_ ?_
        rotate_left
        · intro w' hSw
          try dsimp only at hSw
          go_simp
          try with_reducible rfl
        try simp only [Act.put, List.setIfInBounds_toArray, List.set_cons_zero, List.set_cons_succ]
        refine takeP (i := 6) rfl (by kernel_rfl) (by kernel_rfl) (by kernel_rfl) (fun _ _ _ h => h) (by rfl) (by assumption) (v := ?_) ?_ ?_
        rotate_left
        · intro w' hSw
          try dsimp only at hSw
          go_simp
          try with_reducible rfl
        try simp only [Act.put, List.setIfInBounds_toArray, List.set_cons_zero, List.set_cons_succ]
        refine carryP2 (i := 4) (j := 7) rfl rfl (by kernel_rfl) (by rfl) (by rfl) (fun K hK => ?_) (fun K hK => ?_)
        · go_simp
          refine hK.out _ _ ?_ (fun hHeld => ?_)
          · first | exact hSst | exact hS8 | exact hS7 | exact hS0
          clear hK K
          try simp only [Act.put, List.setIfInBounds_toArray, List.set_cons_zero, List.set_cons_succ]
          refine carryP (i := 7) rfl (by kernel_rfl) (by rfl) (fun K hK => ?_)
          go_simp
          have hX7 : Below w5.heap.size w5 ((w5.alloc (.cells #[.int .u32 (p.2 : Int)] 38)).drew) := ((Below.refl w5.heap.size w5).alloc (Nat.le_refl _) _).drew
          have hl7 := (hm.last.alloc (.cells #[.int .u32 (p.2 : Int)] 38)).drew
          have hrd7 : Reads ((w5.alloc (.cells #[.int .u32 (p.2 : Int)] 38)).drew) (w5.heap.size + 1) 1 (some ⟨w5.heap.size, 0, none⟩) 1 [.int .u32 (p.2 : Int)] := (Reads.one _ _ _).drew
          have hs7 : ((w5.alloc (.cells #[.int .u32 (p.2 : Int)] 38)).drew).heap.size = w5.heap.size + 1 := by simp
          generalize (w5.alloc (.cells #[.int .u32 (p.2 : Int)] 38)).drew = w7 at hX7 hl7 hrd7 hs7 ⊢
          have hq7 := blk_below hq0 hX7 hgq
          have hy7 := blk_below hm.blk hX7 hgyl
          have hS7 : w7.cell? ⟨q, 0, none⟩ = some (.int .u64 (p.1 : Int)) ∧ w7.cell? ⟨q, 1, none⟩ = some (.int .u32 (p.2 : Int)) := ⟨blk_cell hq7 0, blk_cell hq7 1⟩
          have z7 : w7.cell? ⟨gy, j * 2 + 1, none⟩ = some (.slice Al nl cl) := by rw [blk_cell hy7]; exact hc1
          refine hK.out _ _ ?_ (fun hHeld => ?_)
          · first | exact hSst | exact hS8 | exact hS7 | exact hS0
          clear hK K
          try simp only [Act.put, List.setIfInBounds_toArray, List.set_cons_zero, List.set_cons_succ]
          refine carryP (i := 8) rfl (by kernel_rfl) (by rfl) (fun K hK => ?_)
          refine wp_append_any _ (.tmp 44) (.tmp 47) _ rfl b 38 iu _ 1 4 Try.underlying67 ui0 uz0 uz1 uz2 rfl (by omega) (.slice Al nl cl) nl _ (by rfl) hl7 (w5.heap.size + 1) (some ⟨w5.heap.size, 0, none⟩) 1 1 [.int .u32 (p.2 : Int)] (by rfl) hrd7 (by simp [Value.oneCell']) (by unfold maxLen; omega) (by omega) (by omega) ?_
          intro v8 w8 hl8 hg8 hat8
          obtain ⟨A8, c8, rfl⟩ := own_slice hl8
          obtain ⟨hy8, hgo, hbS⟩ := gso_store hm hX7 hg8 hl8
          rw [HJ.out] at hgo hbS
          have hq8 : w8.heap[q]? = some (.cells #[.int .u64 (p.1 : Int), .int .u32 (p.2 : Int)] 51 (0, 0)) := (hg8.block q (blk_lt hq7) (own_ne hl7 hq7 (by decide))).trans hq7
          have hS8 : w8.cell? ⟨q, 0, none⟩ = some (.int .u64 (p.1 : Int)) ∧ w8.cell? ⟨q, 1, none⟩ = some (.int .u32 (p.2 : Int)) := ⟨blk_cell hq8 0, blk_cell hq8 1⟩
          have z1 : w8.cell? ⟨gy, j * 2 + 1, none⟩ = some (.slice Al nl cl) := by rw [blk_cell hy8]; exact hc1
          have zf := blk_frozen hy8 (j * 2 + 1)
          refine hK.out _ _ ?_ (fun hHeld => ?_)
          · first | exact hSst | exact hS8 | exact hS7 | exact hS0
          clear hK K
          try simp only [Act.put, List.setIfInBounds_toArray, List.set_cons_zero, List.set_cons_succ]
          refine takeP (i := 9) rfl (by kernel_rfl) (by kernel_rfl) (by kernel_rfl) (fun _ _ _ h => h) (by rfl) (by assumption) (v := ?_) ?_ ?_
          rotate_left
          · intro w' hSw
            try dsimp only at hSw
            go_simp
            try with_reducible rfl
          try simp only [Act.put, List.setIfInBounds_toArray, List.set_cons_zero, List.set_cons_succ]
          refine takeP (i := 10) rfl (by kernel_rfl) (by kernel_rfl) (by kernel_rfl) (fun _ _ _ h => h) (by rfl) (by assumption) (v := ?_) ?_ ?_
          rotate_left
          · intro w' hSw
            try dsimp only at hSw
            go_simp
            try with_reducible rfl
          try simp only [Act.put, List.setIfInBounds_toArray, List.set_cons_zero, List.set_cons_succ]
          refine carryP (i := 11) rfl (by kernel_rfl) (by rfl) (fun K hK => ?_)
          have hqS := blk_far hq8 (p := ⟨gy, j * 2 + 1, none⟩) (fun e => by have e : q = gy := e; rw [e] at hq8; rw [hy8] at hq8; cases hq8) (.slice A8 (nl + 1) c8)
          have hSst : (w8.setCell ⟨gy, j * 2 + 1, none⟩ (.slice A8 (nl + 1) c8)).cell? ⟨q, 0, none⟩ = some (.int .u64 (p.1 : Int)) ∧ (w8.setCell ⟨gy, j * 2 + 1, none⟩ (.slice A8 (nl + 1) c8)).cell? ⟨q, 1, none⟩ = some (.int .u32 (p.2 : Int)) := ⟨blk_cell hqS 0, blk_cell hqS 1⟩
          go_simp
          refine hK.out _ _ ?_ (fun hHeld => ?_)
          · first | exact hSst | exact hS8 | exact hS7 | exact hS0
          clear hK K
          try simp only [Act.put, List.setIfInBounds_toArray, List.set_cons_zero, List.set_cons_succ]
          refine wpAnyH_done (by kernel_rfl) ?_ _
          clear hm hl7 hl8 hg8 hq7 hq8 hqS hrd7 hy7 hy8 hX7 z1 zf z7 hat8
          generalize w8.setCell ⟨gy, j * 2 + 1, none⟩ (.slice A8 (nl + 1) c8) = w9 at hgo hbS hS8 hSst ⊢
          go_wp2_with fail
          refine ⟨⟨k + 1, some ⟨gy, 0, none⟩, j + 1, _, hlt, by go_num, rfl, by omega, by rw [HG.out]; exact hgo, hbW.trans hbS⟩, by simp [intOf]; omega⟩
        · go_simp
          have hX7 : Below w5.heap.size w5 ((w5.alloc (.cells #[.int .u32 (p.2 : Int)] 38)).drew) := ((Below.refl w5.heap.size w5).alloc (Nat.le_refl _) _).drew
          have hl7 := (hm.last.alloc (.cells #[.int .u32 (p.2 : Int)] 38)).drew
          have hrd7 : Reads ((w5.alloc (.cells #[.int .u32 (p.2 : Int)] 38)).drew) (w5.heap.size + 1) 1 (some ⟨w5.heap.size, 0, none⟩) 1 [.int .u32 (p.2 : Int)] := (Reads.one _ _ _).drew
          have hs7 : ((w5.alloc (.cells #[.int .u32 (p.2 : Int)] 38)).drew).heap.size = w5.heap.size + 1 := by simp
          generalize (w5.alloc (.cells #[.int .u32 (p.2 : Int)] 38)).drew = w7 at hX7 hl7 hrd7 hs7 ⊢
          have hq7 := blk_below hq0 hX7 hgq
          have hy7 := blk_below hm.blk hX7 hgyl
          have hS7 : w7.cell? ⟨q, 0, none⟩ = some (.int .u64 (p.1 : Int)) ∧ w7.cell? ⟨q, 1, none⟩ = some (.int .u32 (p.2 : Int)) := ⟨blk_cell hq7 0, blk_cell hq7 1⟩
          have z7 : w7.cell? ⟨gy, j * 2 + 1, none⟩ = some (.slice Al nl cl) := by rw [blk_cell hy7]; exact hc1
          refine hK.out _ _ ?_ (fun hHeld => ?_)
          · first | exact hSst | exact hS8 | exact hS7 | exact hS0
          clear hK K
          try simp only [Act.put, List.setIfInBounds_toArray, List.set_cons_zero, List.set_cons_succ]
          refine carryP (i := 4) rfl (by kernel_rfl) (by rfl) (fun K hK => ?_)
          go_simp
          refine hK.out _ _ ?_ (fun hHeld => ?_)
          · first | exact hSst | exact hS8 | exact hS7 | exact hS0
          clear hK K
          try simp only [Act.put, List.setIfInBounds_toArray, List.set_cons_zero, List.set_cons_succ]
          refine carryP (i := 8) rfl (by kernel_rfl) (by rfl) (fun K hK => ?_)
          refine wp_append_any _ (.tmp 44) (.tmp 47) _ rfl b 38 iu _ 1 4 Try.underlying67 ui0 uz0 uz1 uz2 rfl (by omega) (.slice Al nl cl) nl _ (by rfl) hl7 (w5.heap.size + 1) (some ⟨w5.heap.size, 0, none⟩) 1 1 [.int .u32 (p.2 : Int)] (by rfl) hrd7 (by simp [Value.oneCell']) (by unfold maxLen; omega) (by omega) (by omega) ?_
          intro v8 w8 hl8 hg8 hat8
          obtain ⟨A8, c8, rfl⟩ := own_slice hl8
          obtain ⟨hy8, hgo, hbS⟩ := gso_store hm hX7 hg8 hl8
          rw [HJ.out] at hgo hbS
          have hq8 : w8.heap[q]? = some (.cells #[.int .u64 (p.1 : Int), .int .u32 (p.2 : Int)] 51 (0, 0)) := (hg8.block q (blk_lt hq7) (own_ne hl7 hq7 (by decide))).trans hq7
          have hS8 : w8.cell? ⟨q, 0, none⟩ = some (.int .u64 (p.1 : Int)) ∧ w8.cell? ⟨q, 1, none⟩ = some (.int .u32 (p.2 : Int)) := ⟨blk_cell hq8 0, blk_cell hq8 1⟩
          have z1 : w8.cell? ⟨gy, j * 2 + 1, none⟩ = some (.slice Al nl cl) := by rw [blk_cell hy8]; exact hc1
          have zf := blk_frozen hy8 (j * 2 + 1)
          refine hK.out _ _ ?_ (fun hHeld => ?_)
          · first | exact hSst | exact hS8 | exact hS7 | exact hS0
          clear hK K
          try simp only [Act.put, List.setIfInBounds_toArray, List.set_cons_zero, List.set_cons_succ]
          refine takeP (i := 9) rfl (by kernel_rfl) (by kernel_rfl) (by kernel_rfl) (fun _ _ _ h => h) (by rfl) (by assumption) (v := ?_) ?_ ?_
          rotate_left
          · intro w' hSw
            try dsimp only at hSw
            go_simp
            try with_reducible rfl
          try simp only [Act.put, List.setIfInBounds_toArray, List.set_cons_zero, List.set_cons_succ]
          refine takeP (i := 10) rfl (by kernel_rfl) (by kernel_rfl) (by kernel_rfl) (fun _ _ _ h => h) (by rfl) (by assumption) (v := ?_) ?_ ?_
          rotate_left
          · intro w' hSw
            try dsimp only at hSw
            go_simp
            try with_reducible rfl
          try simp only [Act.put, List.setIfInBounds_toArray, List.set_cons_zero, List.set_cons_succ]
          refine carryP (i := 11) rfl (by kernel_rfl) (by rfl) (fun K hK => ?_)
          have hqS := blk_far hq8 (p := ⟨gy, j * 2 + 1, none⟩) (fun e => by have e : q = gy := e; rw [e] at hq8; rw [hy8] at hq8; cases hq8) (.slice A8 (nl + 1) c8)
          have hSst : (w8.setCell ⟨gy, j * 2 + 1, none⟩ (.slice A8 (nl + 1) c8)).cell? ⟨q, 0, none⟩ = some (.int .u64 (p.1 : Int)) ∧ (w8.setCell ⟨gy, j * 2 + 1, none⟩ (.slice A8 (nl + 1) c8)).cell? ⟨q, 1, none⟩ = some (.int .u32 (p.2 : Int)) := ⟨blk_cell hqS 0, blk_cell hqS 1⟩
          go_simp
          refine hK.out _ _ ?_ (fun hHeld => ?_)
          · first | exact hSst | exact hS8 | exact hS7 | exact hS0
          clear hK K
          try simp only [Act.put, List.setIfInBounds_toArray, List.set_cons_zero, List.set_cons_succ]
          refine wpAnyH_done (by kernel_rfl) ?_ _
          clear hm hl7 hl8 hg8 hq7 hq8 hqS hrd7 hy7 hy8 hX7 z1 zf z7 hat8
          generalize w8.setCell ⟨gy, j * 2 + 1, none⟩ (.slice A8 (nl + 1) c8) = w9 at hgo hbS hS8 hSst ⊢
          go_wp2_with fail
          refine ⟨⟨k + 1, some ⟨gy, 0, none⟩, j + 1, _, hlt, by go_num, rfl, by omega, by rw [HG.out]; exact hgo, hbW.trans hbS⟩, by simp [intOf]; omega⟩
      · by_cases ht : t = p.1
        · have HG : Hid (fGa (ps.take (k + 1)) = init ++ [(t, pl ++ [p.2])]) := Lib.hid (by rw [HF.out, hrs]; exact gaStep_same init t pl p ht)
          obtain ⟨j, hj⟩ : ∃ j, init.length = j := ⟨_, rfl⟩
          have hc0 := hm.cur0
          rw [hj] at hc0 hnk hgWd ⊢
          have hS : ∀ w', Below W.heap.size W w' → (w'.cell? ⟨q, 0, none⟩ = some (.int .u64 (p.1 : Int)) ∧ w'.cell? ⟨q, 1, none⟩ = some (.int .u32 (p.2 : Int))) ∧ w'.cell? ⟨gy, j * 2, none⟩ = some (.int .u64 (t : Int)) := fun w' hw => ⟨hbox w' hw, (blk_cell (blk_below hm.blk hw (blk_lt hm.blk)) (j * 2)).trans hc0⟩
          have HS := Lib.hid hS
          have hwj : IntKind.i64.wrap (j : Int) = (j : Int) := IntWalk.i64_in _ (by omega)
          have hj0 : (0 : Int) ≤ (j : Int) := by omega
          have hj1 : (j : Int) < (j : Int) + 1 := by omega
          have hje : (((j : Int) + 1) == 0) = false := by simp; omega
          have hte : ((t : Int) != (p.1 : Int)) = false := by simp [ht]
          clear hrs hbox hS hc0
          refine wp_region_held_drew (S := (fun w' => (w'.cell? ⟨q, 0, none⟩ = some (.int .u64 (p.1 : Int)) ∧ w'.cell? ⟨q, 1, none⟩ = some (.int .u32 (p.2 : Int))) ∧ w'.cell? ⟨gy, j * 2, none⟩ = some (.int .u64 (t : Int)))) (by kernel_rfl) ?_ (fun hHeld => ?_)
          · exact HS.out _ (by first | assumption | exact (Below.refl _ _).drew | exact Below.refl _ _)
          refine takeP (i := 0) rfl (by kernel_rfl) (by kernel_rfl) (by kernel_rfl) (fun _ _ _ h => h) (by rfl) (by assumption) (v := ?_) ?_ ?_
          rotate_left
          · intro w' hSw
            try dsimp only at hSw
            go_simp
            try with_reducible rfl
          try simp only [Act.put, List.setIfInBounds_toArray, List.set_cons_zero, List.set_cons_succ]
          refine takeP (i := 1) rfl (by kernel_rfl) (by kernel_rfl) (by kernel_rfl) (fun _ _ _ h => h) (by rfl) (by assumption) (v := ?_) ?_ ?_
          rotate_left
          · intro w' hSw
            try dsimp only at hSw
            go_simp
            try with_reducible rfl
          try simp only [Act.put, List.setIfInBounds_toArray, List.set_cons_zero, List.set_cons_succ]
          refine takeP (i := 2) rfl (by kernel_rfl) (by kernel_rfl) (by kernel_rfl) (fun _ _ _ h => h) (by rfl) (by assumption) (v := ?_) ?_ ?_
          rotate_left
          · intro w' hSw
            try dsimp only at hSw
            go_simp
            try with_reducible rfl
          try simp only [Act.put, List.setIfInBounds_toArray, List.set_cons_zero, List.set_cons_succ]
          refine takeP (i := 3) rfl (by kernel_rfl) (by kernel_rfl) (by kernel_rfl) (fun _ _ _ h => h) (by rfl) (by assumption) (v := ?_) ?_ ?_
          rotate_left
          · intro w' hSw
            try dsimp only at hSw
            go_simp
            try with_reducible rfl
          try simp only [Act.put, List.setIfInBounds_toArray, List.set_cons_zero, List.set_cons_succ]
          refine takeP (i := 4) rfl (by kernel_rfl) (by kernel_rfl) (by kernel_rfl) (fun _ _ _ h => h) (by rfl) (by assumption) (v := ?_) ?_ ?_
          rotate_left
          · intro w' hSw
            try dsimp only at hSw
            go_simp
            try with_reducible rfl
          try simp only [Act.put, List.setIfInBounds_toArray, List.set_cons_zero, List.set_cons_succ]
          refine takeP (i := 5) rfl (by kernel_rfl) (by kernel_rfl) (by kernel_rfl) (fun _ _ _ h => h) (by rfl) (by assumption) (v := ?_) ?_ ?_
          rotate_left
          · intro w' hSw
            try dsimp only at hSw
            go_simp
            try with_reducible rfl
          try simp only [Act.put, List.setIfInBounds_toArray, List.set_cons_zero, List.set_cons_succ]
          refine takeP (i := 6) rfl (by kernel_rfl) (by kernel_rfl) (by kernel_rfl) (fun _ _ _ h => h) (by rfl) (by assumption) (v := ?_) ?_ ?_
          rotate_left
          · intro w' hSw
            try dsimp only at hSw
            go_simp
            try with_reducible rfl
          try simp only [Act.put, List.setIfInBounds_toArray, List.set_cons_zero, List.set_cons_succ]
          refine takeP (i := 7) rfl (by kernel_rfl) (by kernel_rfl) (by kernel_rfl) (fun _ _ _ h => h) (by rfl) (by assumption) (v := ?_) ?_ ?_
          rotate_left
          · intro w' hSw
            try dsimp only at hSw
            go_simp
            try with_reducible rfl
          try simp only [Act.put, List.setIfInBounds_toArray, List.set_cons_zero, List.set_cons_succ]
          refine takeP (i := 8) rfl (by kernel_rfl) (by kernel_rfl) (by kernel_rfl) (fun _ _ _ h => h) (by rfl) (by assumption) (v := ?_) ?_ ?_
          rotate_left
          · intro w' hSw
            try dsimp only at hSw
            go_simp
            try with_reducible rfl
          try simp only [Act.put, List.setIfInBounds_toArray, List.set_cons_zero, List.set_cons_succ]
          refine takeP (i := 9) rfl (by kernel_rfl) (by kernel_rfl) (by kernel_rfl) (fun _ _ _ h => h) (by rfl) (by assumption) (v := ?_) ?_ ?_
          rotate_left
          · intro w' hSw
            try dsimp only at hSw
            go_simp
            try with_reducible rfl
          try simp only [Act.put, List.setIfInBounds_toArray, List.set_cons_zero, List.set_cons_succ]
          refine takeP (i := 10) rfl (by kernel_rfl) (by kernel_rfl) (by kernel_rfl) (fun _ _ _ h => h) (by rfl) (by assumption) (v := ?_) ?_ ?_
          rotate_left
          · intro w' hSw
            try dsimp only at hSw
            go_simp
            try with_reducible rfl
          try simp only [Act.put, List.setIfInBounds_toArray, List.set_cons_zero, List.set_cons_succ]
          refine takeP (i := 11) rfl (by kernel_rfl) (by kernel_rfl) (by kernel_rfl) (fun _ _ _ h => h) (by rfl) (by assumption) (v := ?_) ?_ ?_
          rotate_left
          · intro w' hSw
            try dsimp only at hSw
            go_simp
            try with_reducible rfl
          try simp only [Act.put, List.setIfInBounds_toArray, List.set_cons_zero, List.set_cons_succ]
          refine takeP (i := 12) rfl (by kernel_rfl) (by kernel_rfl) (by kernel_rfl) (fun _ _ _ h => h) (by rfl) (by assumption) (v := ?_) ?_ ?_
          rotate_left
          · intro w' hSw
            try dsimp only at hSw
            go_simp
            try with_reducible rfl
          try simp only [Act.put, List.setIfInBounds_toArray, List.set_cons_zero, List.set_cons_succ]
          refine wpAnyH_done (by kernel_rfl) ?_ _
          have hm := hm.below (Below.refl W.heap.size W).drew
          have hbW := hbWd
          have hq0 := hq0d
          clear hgWd hbWd hq0d HS
          generalize W.drew = W2 at hm hbW hq0 ⊢
          clear hwj hj0 hj1 hje hte
          have hc1 := hm.cur1
          have hgq := blk_lt hq0
          have hgyl := blk_lt hm.blk
          have hbWb := hm.bW
          have hnlk := hm.nlK
          have hjk : j ≤ k := by omega
          rw [hj] at hc1
          have hwj : IntKind.i64.wrap (j : Int) = (j : Int) := IntWalk.i64_in _ (by omega)
          have hj0 : (0 : Int) ≤ (j : Int) := by omega
          have hj1 : (j : Int) < (j : Int) + 1 := by omega
          have z0 : W2.drew.cell? ⟨gy, j * 2 + 1, none⟩ = some (.slice Al nl cl) := (blk_cell (show W2.drew.heap[gy]? = some (.cells cur 69 (0, 0)) from hm.blk) (j * 2 + 1)).trans hc1
          have hS0 : W2.cell? ⟨q, 0, none⟩ = some (.int .u64 (p.1 : Int)) ∧ W2.cell? ⟨q, 1, none⟩ = some (.int .u32 (p.2 : Int)) := ⟨blk_cell hq0 0, blk_cell hq0 1⟩
          have HJ := Lib.hid hj
          clear hj
          go_wp2_with fail
          refine wp_region_held_drew (S := (fun w' => w'.cell? ⟨q, 0, none⟩ = some (.int .u64 (p.1 : Int)) ∧ w'.cell? ⟨q, 1, none⟩ = some (.int .u32 (p.2 : Int)))) (by kernel_rfl) ?_ (fun hHeld => ?_)
          · first | exact hSst | exact hS8 | exact hS7 | exact hS0
          refine takeP (i := 0) rfl (by kernel_rfl) (by kernel_rfl) (by kernel_rfl) (fun _ _ _ h => h) (by rfl) (by assumption) (v := ?_) ?_ ?_
          rotate_left
          · intro w' hSw
            try dsimp only at hSw
            go_simp
            try with_reducible rfl
          try simp only [Act.put, List.setIfInBounds_toArray, List.set_cons_zero, List.set_cons_succ]
          refine takeP (i := 1) rfl (by kernel_rfl) (by kernel_rfl) (by kernel_rfl) (fun _ _ _ h => h) (by rfl) (by assumption) (v := ?_) ?_ ?_
          rotate_left
          · intro w' hSw
            try dsimp only at hSw
            go_simp
            try with_reducible rfl
          try simp only [Act.put, List.setIfInBounds_toArray, List.set_cons_zero, List.set_cons_succ]
          refine takeP (i := 2) rfl (by kernel_rfl) (by kernel_rfl) (by kernel_rfl) (fun _ _ _ h => h) (by rfl) (by assumption) (v := ?_) ?_ ?_
          rotate_left
          · intro w' hSw
            try dsimp only at hSw
            go_simp
            try with_reducible rfl
          try simp only [Act.put, List.setIfInBounds_toArray, List.set_cons_zero, List.set_cons_succ]
          refine takeP (i := 3) rfl (by kernel_rfl) (by kernel_rfl) (by kernel_rfl) (fun _ _ _ h => h) (by rfl) (by assumption) (v := ?_) ?_ ?_
          rotate_left
          · intro w' hSw
            try dsimp only at hSw
            go_simp
            try with_reducible rfl
          try simp only [Act.put, List.setIfInBounds_toArray, List.set_cons_zero, List.set_cons_succ]
          refine takeP (i := 5) rfl (by kernel_rfl) (by kernel_rfl) (by kernel_rfl) (fun _ _ _ h => h) (by rfl) (by assumption) (v := ?_) ?_ ?_
          rotate_left
          · intro w' hSw
            try dsimp only at hSw
            go_simp
            try with_reducible rfl
          try simp only [Act.put, List.setIfInBounds_toArray, List.set_cons_zero, List.set_cons_succ]
          refine takeP (i := 6) rfl (by kernel_rfl) (by kernel_rfl) (by kernel_rfl) (fun _ _ _ h => h) (by rfl) (by assumption) (v := ?_) ?_ ?_
          rotate_left
          · intro w' hSw
            try dsimp only at hSw
            go_simp
            try with_reducible rfl
          try simp only [Act.put, List.setIfInBounds_toArray, List.set_cons_zero, List.set_cons_succ]
          refine carryP2 (i := 4) (j := 7) rfl rfl (by kernel_rfl) (by rfl) (by rfl) (fun K hK => ?_) (fun K hK => ?_)
          · go_simp
            refine hK.out _ _ ?_ (fun hHeld => ?_)
            · first | exact hSst | exact hS8 | exact hS7 | exact hS0
            clear hK K
            try simp only [Act.put, List.setIfInBounds_toArray, List.set_cons_zero, List.set_cons_succ]
            refine carryP (i := 7) rfl (by kernel_rfl) (by rfl) (fun K hK => ?_)
            go_simp
            have hX7 : Below W2.heap.size W2 ((W2.alloc (.cells #[.int .u32 (p.2 : Int)] 38)).drew) := ((Below.refl W2.heap.size W2).alloc (Nat.le_refl _) _).drew
            have hl7 := (hm.last.alloc (.cells #[.int .u32 (p.2 : Int)] 38)).drew
            have hrd7 : Reads ((W2.alloc (.cells #[.int .u32 (p.2 : Int)] 38)).drew) (W2.heap.size + 1) 1 (some ⟨W2.heap.size, 0, none⟩) 1 [.int .u32 (p.2 : Int)] := (Reads.one _ _ _).drew
            have hs7 : ((W2.alloc (.cells #[.int .u32 (p.2 : Int)] 38)).drew).heap.size = W2.heap.size + 1 := by simp
            generalize (W2.alloc (.cells #[.int .u32 (p.2 : Int)] 38)).drew = w7 at hX7 hl7 hrd7 hs7 ⊢
            have hq7 := blk_below hq0 hX7 hgq
            have hy7 := blk_below hm.blk hX7 hgyl
            have hS7 : w7.cell? ⟨q, 0, none⟩ = some (.int .u64 (p.1 : Int)) ∧ w7.cell? ⟨q, 1, none⟩ = some (.int .u32 (p.2 : Int)) := ⟨blk_cell hq7 0, blk_cell hq7 1⟩
            have z7 : w7.cell? ⟨gy, j * 2 + 1, none⟩ = some (.slice Al nl cl) := by rw [blk_cell hy7]; exact hc1
            refine hK.out _ _ ?_ (fun hHeld => ?_)
            · first | exact hSst | exact hS8 | exact hS7 | exact hS0
            clear hK K
            try simp only [Act.put, List.setIfInBounds_toArray, List.set_cons_zero, List.set_cons_succ]
            refine carryP (i := 8) rfl (by kernel_rfl) (by rfl) (fun K hK => ?_)
            refine wp_append_any _ (.tmp 44) (.tmp 47) _ rfl b 38 iu _ 1 4 Try.underlying67 ui0 uz0 uz1 uz2 rfl (by omega) (.slice Al nl cl) nl _ (by rfl) hl7 (W2.heap.size + 1) (some ⟨W2.heap.size, 0, none⟩) 1 1 [.int .u32 (p.2 : Int)] (by rfl) hrd7 (by simp [Value.oneCell']) (by unfold maxLen; omega) (by omega) (by omega) ?_
            intro v8 w8 hl8 hg8 hat8
            obtain ⟨A8, c8, rfl⟩ := own_slice hl8
            obtain ⟨hy8, hgo, hbS⟩ := gso_store hm hX7 hg8 hl8
            rw [HJ.out] at hgo hbS
            have hq8 : w8.heap[q]? = some (.cells #[.int .u64 (p.1 : Int), .int .u32 (p.2 : Int)] 51 (0, 0)) := (hg8.block q (blk_lt hq7) (own_ne hl7 hq7 (by decide))).trans hq7
            have hS8 : w8.cell? ⟨q, 0, none⟩ = some (.int .u64 (p.1 : Int)) ∧ w8.cell? ⟨q, 1, none⟩ = some (.int .u32 (p.2 : Int)) := ⟨blk_cell hq8 0, blk_cell hq8 1⟩
            have z1 : w8.cell? ⟨gy, j * 2 + 1, none⟩ = some (.slice Al nl cl) := by rw [blk_cell hy8]; exact hc1
            have zf := blk_frozen hy8 (j * 2 + 1)
            refine hK.out _ _ ?_ (fun hHeld => ?_)
            · first | exact hSst | exact hS8 | exact hS7 | exact hS0
            clear hK K
            try simp only [Act.put, List.setIfInBounds_toArray, List.set_cons_zero, List.set_cons_succ]
            refine takeP (i := 9) rfl (by kernel_rfl) (by kernel_rfl) (by kernel_rfl) (fun _ _ _ h => h) (by rfl) (by assumption) (v := ?_) ?_ ?_
            rotate_left
            · intro w' hSw
              try dsimp only at hSw
              go_simp
              try with_reducible rfl
            try simp only [Act.put, List.setIfInBounds_toArray, List.set_cons_zero, List.set_cons_succ]
            refine takeP (i := 10) rfl (by kernel_rfl) (by kernel_rfl) (by kernel_rfl) (fun _ _ _ h => h) (by rfl) (by assumption) (v := ?_) ?_ ?_
            rotate_left
            · intro w' hSw
              try dsimp only at hSw
              go_simp
              try with_reducible rfl
            try simp only [Act.put, List.setIfInBounds_toArray, List.set_cons_zero, List.set_cons_succ]
            refine carryP (i := 11) rfl (by kernel_rfl) (by rfl) (fun K hK => ?_)
            have hqS := blk_far hq8 (p := ⟨gy, j * 2 + 1, none⟩) (fun e => by have e : q = gy := e; rw [e] at hq8; rw [hy8] at hq8; cases hq8) (.slice A8 (nl + 1) c8)
            have hSst : (w8.setCell ⟨gy, j * 2 + 1, none⟩ (.slice A8 (nl + 1) c8)).cell? ⟨q, 0, none⟩ = some (.int .u64 (p.1 : Int)) ∧ (w8.setCell ⟨gy, j * 2 + 1, none⟩ (.slice A8 (nl + 1) c8)).cell? ⟨q, 1, none⟩ = some (.int .u32 (p.2 : Int)) := ⟨blk_cell hqS 0, blk_cell hqS 1⟩
            go_simp
            refine hK.out _ _ ?_ (fun hHeld => ?_)
            · first | exact hSst | exact hS8 | exact hS7 | exact hS0
            clear hK K
            try simp only [Act.put, List.setIfInBounds_toArray, List.set_cons_zero, List.set_cons_succ]
            refine wpAnyH_done (by kernel_rfl) ?_ _
            clear hm hl7 hl8 hg8 hq7 hq8 hqS hrd7 hy7 hy8 hX7 z1 zf z7 hat8
            generalize w8.setCell ⟨gy, j * 2 + 1, none⟩ (.slice A8 (nl + 1) c8) = w9 at hgo hbS hS8 hSst ⊢
            go_wp2_with fail
            refine ⟨⟨k + 1, some ⟨gy, 0, none⟩, j + 1, _, hlt, by go_num, rfl, by omega, by rw [HG.out]; exact hgo, hbW.trans hbS⟩, by simp [intOf]; omega⟩
          · go_simp
            have hX7 : Below W2.heap.size W2 ((W2.alloc (.cells #[.int .u32 (p.2 : Int)] 38)).drew) := ((Below.refl W2.heap.size W2).alloc (Nat.le_refl _) _).drew
            have hl7 := (hm.last.alloc (.cells #[.int .u32 (p.2 : Int)] 38)).drew
            have hrd7 : Reads ((W2.alloc (.cells #[.int .u32 (p.2 : Int)] 38)).drew) (W2.heap.size + 1) 1 (some ⟨W2.heap.size, 0, none⟩) 1 [.int .u32 (p.2 : Int)] := (Reads.one _ _ _).drew
            have hs7 : ((W2.alloc (.cells #[.int .u32 (p.2 : Int)] 38)).drew).heap.size = W2.heap.size + 1 := by simp
            generalize (W2.alloc (.cells #[.int .u32 (p.2 : Int)] 38)).drew = w7 at hX7 hl7 hrd7 hs7 ⊢
            have hq7 := blk_below hq0 hX7 hgq
            have hy7 := blk_below hm.blk hX7 hgyl
            have hS7 : w7.cell? ⟨q, 0, none⟩ = some (.int .u64 (p.1 : Int)) ∧ w7.cell? ⟨q, 1, none⟩ = some (.int .u32 (p.2 : Int)) := ⟨blk_cell hq7 0, blk_cell hq7 1⟩
            have z7 : w7.cell? ⟨gy, j * 2 + 1, none⟩ = some (.slice Al nl cl) := by rw [blk_cell hy7]; exact hc1
            refine hK.out _ _ ?_ (fun hHeld => ?_)
            · first | exact hSst | exact hS8 | exact hS7 | exact hS0
            clear hK K
            try simp only [Act.put, List.setIfInBounds_toArray, List.set_cons_zero, List.set_cons_succ]
            refine carryP (i := 4) rfl (by kernel_rfl) (by rfl) (fun K hK => ?_)
            go_simp
            refine hK.out _ _ ?_ (fun hHeld => ?_)
            · first | exact hSst | exact hS8 | exact hS7 | exact hS0
            clear hK K
            try simp only [Act.put, List.setIfInBounds_toArray, List.set_cons_zero, List.set_cons_succ]
            refine carryP (i := 8) rfl (by kernel_rfl) (by rfl) (fun K hK => ?_)
            refine wp_append_any _ (.tmp 44) (.tmp 47) _ rfl b 38 iu _ 1 4 Try.underlying67 ui0 uz0 uz1 uz2 rfl (by omega) (.slice Al nl cl) nl _ (by rfl) hl7 (W2.heap.size + 1) (some ⟨W2.heap.size, 0, none⟩) 1 1 [.int .u32 (p.2 : Int)] (by rfl) hrd7 (by simp [Value.oneCell']) (by unfold maxLen; omega) (by omega) (by omega) ?_
            intro v8 w8 hl8 hg8 hat8
            obtain ⟨A8, c8, rfl⟩ := own_slice hl8
            obtain ⟨hy8, hgo, hbS⟩ := gso_store hm hX7 hg8 hl8
            rw [HJ.out] at hgo hbS
            have hq8 : w8.heap[q]? = some (.cells #[.int .u64 (p.1 : Int), .int .u32 (p.2 : Int)] 51 (0, 0)) := (hg8.block q (blk_lt hq7) (own_ne hl7 hq7 (by decide))).trans hq7
            have hS8 : w8.cell? ⟨q, 0, none⟩ = some (.int .u64 (p.1 : Int)) ∧ w8.cell? ⟨q, 1, none⟩ = some (.int .u32 (p.2 : Int)) := ⟨blk_cell hq8 0, blk_cell hq8 1⟩
            have z1 : w8.cell? ⟨gy, j * 2 + 1, none⟩ = some (.slice Al nl cl) := by rw [blk_cell hy8]; exact hc1
            have zf := blk_frozen hy8 (j * 2 + 1)
            refine hK.out _ _ ?_ (fun hHeld => ?_)
            · first | exact hSst | exact hS8 | exact hS7 | exact hS0
            clear hK K
            try simp only [Act.put, List.setIfInBounds_toArray, List.set_cons_zero, List.set_cons_succ]
            refine takeP (i := 9) rfl (by kernel_rfl) (by kernel_rfl) (by kernel_rfl) (fun _ _ _ h => h) (by rfl) (by assumption) (v := ?_) ?_ ?_
            rotate_left
            · intro w' hSw
              try dsimp only at hSw
              go_simp
              try with_reducible rfl
            try simp only [Act.put, List.setIfInBounds_toArray, List.set_cons_zero, List.set_cons_succ]
            refine takeP (i := 10) rfl (by kernel_rfl) (by kernel_rfl) (by kernel_rfl) (fun _ _ _ h => h) (by rfl) (by assumption) (v := ?_) ?_ ?_
            rotate_left
            · intro w' hSw
              try dsimp only at hSw
              go_simp
              try with_reducible rfl
            try simp only [Act.put, List.setIfInBounds_toArray, List.set_cons_zero, List.set_cons_succ]
            refine carryP (i := 11) rfl (by kernel_rfl) (by rfl) (fun K hK => ?_)
            have hqS := blk_far hq8 (p := ⟨gy, j * 2 + 1, none⟩) (fun e => by have e : q = gy := e; rw [e] at hq8; rw [hy8] at hq8; cases hq8) (.slice A8 (nl + 1) c8)
            have hSst : (w8.setCell ⟨gy, j * 2 + 1, none⟩ (.slice A8 (nl + 1) c8)).cell? ⟨q, 0, none⟩ = some (.int .u64 (p.1 : Int)) ∧ (w8.setCell ⟨gy, j * 2 + 1, none⟩ (.slice A8 (nl + 1) c8)).cell? ⟨q, 1, none⟩ = some (.int .u32 (p.2 : Int)) := ⟨blk_cell hqS 0, blk_cell hqS 1⟩
            go_simp
            refine hK.out _ _ ?_ (fun hHeld => ?_)
            · first | exact hSst | exact hS8 | exact hS7 | exact hS0
            clear hK K
            try simp only [Act.put, List.setIfInBounds_toArray, List.set_cons_zero, List.set_cons_succ]
            refine wpAnyH_done (by kernel_rfl) ?_ _
            clear hm hl7 hl8 hg8 hq7 hq8 hqS hrd7 hy7 hy8 hX7 z1 zf z7 hat8
            generalize w8.setCell ⟨gy, j * 2 + 1, none⟩ (.slice A8 (nl + 1) c8) = w9 at hgo hbS hS8 hSst ⊢
            go_wp2_with fail
            refine ⟨⟨k + 1, some ⟨gy, 0, none⟩, j + 1, _, hlt, by go_num, rfl, by omega, by rw [HG.out]; exact hgo, hbW.trans hbS⟩, by simp [intOf]; omega⟩
        · have HG : Hid (fGa (ps.take (k + 1)) = (init ++ [(t, pl)]) ++ [(p.1, [] ++ [p.2])]) := Lib.hid (by rw [HF.out, hrs]; exact gaStep_new init t pl p ht)
          obtain ⟨j, hj⟩ : ∃ j, init.length = j := ⟨_, rfl⟩
          have hc0 := hm.cur0
          rw [hj] at hc0 hnk hgWd ⊢
          have hS : ∀ w', Below W.heap.size W w' → (w'.cell? ⟨q, 0, none⟩ = some (.int .u64 (p.1 : Int)) ∧ w'.cell? ⟨q, 1, none⟩ = some (.int .u32 (p.2 : Int))) ∧ w'.cell? ⟨gy, j * 2, none⟩ = some (.int .u64 (t : Int)) := fun w' hw => ⟨hbox w' hw, (blk_cell (blk_below hm.blk hw (blk_lt hm.blk)) (j * 2)).trans hc0⟩
          have HS := Lib.hid hS
          have hwj : IntKind.i64.wrap (j : Int) = (j : Int) := IntWalk.i64_in _ (by omega)
          have hj0 : (0 : Int) ≤ (j : Int) := by omega
          have hj1 : (j : Int) < (j : Int) + 1 := by omega
          have hje : (((j : Int) + 1) == 0) = false := by simp; omega
          have hte : ((t : Int) != (p.1 : Int)) = true := by simp; omega
          rw [hrs] at hgWd
          clear hrs hbox hS hc0
          refine wp_region_held_drew (S := (fun w' => (w'.cell? ⟨q, 0, none⟩ = some (.int .u64 (p.1 : Int)) ∧ w'.cell? ⟨q, 1, none⟩ = some (.int .u32 (p.2 : Int))) ∧ w'.cell? ⟨gy, j * 2, none⟩ = some (.int .u64 (t : Int)))) (by kernel_rfl) ?_ (fun hHeld => ?_)
          · exact HS.out _ (by first | assumption | exact (Below.refl _ _).drew | exact Below.refl _ _)
          refine takeP (i := 0) rfl (by kernel_rfl) (by kernel_rfl) (by kernel_rfl) (fun _ _ _ h => h) (by rfl) (by assumption) (v := ?_) ?_ ?_
          rotate_left
          · intro w' hSw
            try dsimp only at hSw
            go_simp
            try with_reducible rfl
          try simp only [Act.put, List.setIfInBounds_toArray, List.set_cons_zero, List.set_cons_succ]
          refine takeP (i := 1) rfl (by kernel_rfl) (by kernel_rfl) (by kernel_rfl) (fun _ _ _ h => h) (by rfl) (by assumption) (v := ?_) ?_ ?_
          rotate_left
          · intro w' hSw
            try dsimp only at hSw
            go_simp
            try with_reducible rfl
          try simp only [Act.put, List.setIfInBounds_toArray, List.set_cons_zero, List.set_cons_succ]
          refine takeP (i := 2) rfl (by kernel_rfl) (by kernel_rfl) (by kernel_rfl) (fun _ _ _ h => h) (by rfl) (by assumption) (v := ?_) ?_ ?_
          rotate_left
          · intro w' hSw
            try dsimp only at hSw
            go_simp
            try with_reducible rfl
          try simp only [Act.put, List.setIfInBounds_toArray, List.set_cons_zero, List.set_cons_succ]
          refine takeP (i := 3) rfl (by kernel_rfl) (by kernel_rfl) (by kernel_rfl) (fun _ _ _ h => h) (by rfl) (by assumption) (v := ?_) ?_ ?_
          rotate_left
          · intro w' hSw
            try dsimp only at hSw
            go_simp
            try with_reducible rfl
          try simp only [Act.put, List.setIfInBounds_toArray, List.set_cons_zero, List.set_cons_succ]
          refine takeP (i := 4) rfl (by kernel_rfl) (by kernel_rfl) (by kernel_rfl) (fun _ _ _ h => h) (by rfl) (by assumption) (v := ?_) ?_ ?_
          rotate_left
          · intro w' hSw
            try dsimp only at hSw
            go_simp
            try with_reducible rfl
          try simp only [Act.put, List.setIfInBounds_toArray, List.set_cons_zero, List.set_cons_succ]
          refine takeP (i := 5) rfl (by kernel_rfl) (by kernel_rfl) (by kernel_rfl) (fun _ _ _ h => h) (by rfl) (by assumption) (v := ?_) ?_ ?_
          rotate_left
          · intro w' hSw
            try dsimp only at hSw
            go_simp
            try with_reducible rfl
          try simp only [Act.put, List.setIfInBounds_toArray, List.set_cons_zero, List.set_cons_succ]
          refine takeP (i := 6) rfl (by kernel_rfl) (by kernel_rfl) (by kernel_rfl) (fun _ _ _ h => h) (by rfl) (by assumption) (v := ?_) ?_ ?_
          rotate_left
          · intro w' hSw
            try dsimp only at hSw
            go_simp
            try with_reducible rfl
          try simp only [Act.put, List.setIfInBounds_toArray, List.set_cons_zero, List.set_cons_succ]
          refine takeP (i := 7) rfl (by kernel_rfl) (by kernel_rfl) (by kernel_rfl) (fun _ _ _ h => h) (by rfl) (by assumption) (v := ?_) ?_ ?_
          rotate_left
          · intro w' hSw
            try dsimp only at hSw
            go_simp
            try with_reducible rfl
          try simp only [Act.put, List.setIfInBounds_toArray, List.set_cons_zero, List.set_cons_succ]
          refine takeP (i := 8) rfl (by kernel_rfl) (by kernel_rfl) (by kernel_rfl) (fun _ _ _ h => h) (by rfl) (by assumption) (v := ?_) ?_ ?_
          rotate_left
          · intro w' hSw
            try dsimp only at hSw
            go_simp
            try with_reducible rfl
          try simp only [Act.put, List.setIfInBounds_toArray, List.set_cons_zero, List.set_cons_succ]
          refine takeP (i := 9) rfl (by kernel_rfl) (by kernel_rfl) (by kernel_rfl) (fun _ _ _ h => h) (by rfl) (by assumption) (v := ?_) ?_ ?_
          rotate_left
          · intro w' hSw
            try dsimp only at hSw
            go_simp
            try with_reducible rfl
          try simp only [Act.put, List.setIfInBounds_toArray, List.set_cons_zero, List.set_cons_succ]
          refine takeP (i := 10) rfl (by kernel_rfl) (by kernel_rfl) (by kernel_rfl) (fun _ _ _ h => h) (by rfl) (by assumption) (v := ?_) ?_ ?_
          rotate_left
          · intro w' hSw
            try dsimp only at hSw
            go_simp
            try with_reducible rfl
          try simp only [Act.put, List.setIfInBounds_toArray, List.set_cons_zero, List.set_cons_succ]
          refine takeP (i := 11) rfl (by kernel_rfl) (by kernel_rfl) (by kernel_rfl) (fun _ _ _ h => h) (by rfl) (by assumption) (v := ?_) ?_ ?_
          rotate_left
          · intro w' hSw
            try dsimp only at hSw
            go_simp
            try with_reducible rfl
          try simp only [Act.put, List.setIfInBounds_toArray, List.set_cons_zero, List.set_cons_succ]
          refine takeP (i := 12) rfl (by kernel_rfl) (by kernel_rfl) (by kernel_rfl) (fun _ _ _ h => h) (by rfl) (by assumption) (v := ?_) ?_ ?_
          rotate_left
          · intro w' hSw
            try dsimp only at hSw
            go_simp
            try with_reducible rfl
          try simp only [Act.put, List.setIfInBounds_toArray, List.set_cons_zero, List.set_cons_succ]
          refine wpAnyH_done (by kernel_rfl) ?_ _
          have hgW := hgWd
          have hbW := hbWd
          have hq0 := hq0d
          clear hgWd hbWd hq0d HS hm
          generalize W.drew = W2 at hgW hbW hq0 ⊢
          clear hwj hj0 hj1 hje hte
          obtain ⟨init2, hin⟩ : ∃ init2, init ++ [(t, pl)] = init2 := ⟨_, rfl⟩
          rw [hin] at hgW HG
          clear hin HF hj
          obtain ⟨cso, hown0, hgp0⟩ := hgW.row hbW.size
          have hl0 := hgW.len
          have hzW := hbW.size
          have q0 := blk_cell hq0 0
          clear hgW
          go_wp2_with (first
            | (at_builtin; refine wpList_append_any _ rfl (.tmp 29) (.tmp 33) _ rfl w.heap.size 69 ir _ 2 32 Try.underlying55 ri0 rz0 rz1 rz2 rfl (by omega) (.slice (some ⟨gy, 0, none⟩) (j + 1) co) (j + 1) cso rfl (hown0.alloc _) (W2.heap.size + 1) (some ⟨W2.heap.size, 0, none⟩) 1 1 [.int .u64 (p.1 : Int), .slice none 0 0] rfl (Reads.two _ _ _ _) (by simp [Value.oneCell']) (by unfold maxLen; omega) (by omega) (by simp; omega) ?_; intro v5 w5 hown5 hg5 hat5; obtain ⟨gy, cur, Al, nl, cl, b, j, c5, rfl, hj, hm, hb5, hoth⟩ := gmid_new (K := k) hl0 hzW hown0 hgp0 hg5 hown5; have hq5 := hoth q _ _ (by decide) hq0; have hbW5 := hbW.trans hb5; clear hown0 hgp0 hg5 hown5 hat5 hq0 hbW hoth hb5 q0 hzW; have hq0 := hq5; have hbW := hbW5; clear hq5 hbW5))
          have hc1 := hm.cur1
          have hgq := blk_lt hq0
          have hgyl := blk_lt hm.blk
          have hbWb := hm.bW
          have hnlk := hm.nlK
          have hjk : j ≤ k := by omega
          rw [hj] at hc1
          have hwj : IntKind.i64.wrap (j : Int) = (j : Int) := IntWalk.i64_in _ (by omega)
          have hj0 : (0 : Int) ≤ (j : Int) := by omega
          have hj1 : (j : Int) < (j : Int) + 1 := by omega
          have z0 : w5.drew.cell? ⟨gy, j * 2 + 1, none⟩ = some (.slice Al nl cl) := (blk_cell (show w5.drew.heap[gy]? = some (.cells cur 69 (0, 0)) from hm.blk) (j * 2 + 1)).trans hc1
          have hS0 : w5.cell? ⟨q, 0, none⟩ = some (.int .u64 (p.1 : Int)) ∧ w5.cell? ⟨q, 1, none⟩ = some (.int .u32 (p.2 : Int)) := ⟨blk_cell hq0 0, blk_cell hq0 1⟩
          have HJ := Lib.hid hj
          clear hj
          go_wp2_with fail
          refine wp_region_held_drew (S := (fun w' => w'.cell? ⟨q, 0, none⟩ = some (.int .u64 (p.1 : Int)) ∧ w'.cell? ⟨q, 1, none⟩ = some (.int .u32 (p.2 : Int)))) (by kernel_rfl) ?_ (fun hHeld => ?_)
          · first | exact hSst | exact hS8 | exact hS7 | exact hS0
          refine takeP (i := 0) rfl (by kernel_rfl) (by kernel_rfl) (by kernel_rfl) (fun _ _ _ h => h) (by rfl) (by assumption) (v := ?_) ?_ ?_
          rotate_left
          · intro w' hSw
            try dsimp only at hSw
            go_simp
            try with_reducible rfl
          try simp only [Act.put, List.setIfInBounds_toArray, List.set_cons_zero, List.set_cons_succ]
          refine takeP (i := 1) rfl (by kernel_rfl) (by kernel_rfl) (by kernel_rfl) (fun _ _ _ h => h) (by rfl) (by assumption) (v := ?_) ?_ ?_
          rotate_left
          · intro w' hSw
            try dsimp only at hSw
            go_simp
            try with_reducible rfl
          try simp only [Act.put, List.setIfInBounds_toArray, List.set_cons_zero, List.set_cons_succ]
          refine takeP (i := 2) rfl (by kernel_rfl) (by kernel_rfl) (by kernel_rfl) (fun _ _ _ h => h) (by rfl) (by assumption) (v := ?_) ?_ ?_
          rotate_left
          · intro w' hSw
            try dsimp only at hSw
            go_simp
            try with_reducible rfl
          try simp only [Act.put, List.setIfInBounds_toArray, List.set_cons_zero, List.set_cons_succ]
          refine takeP (i := 3) rfl (by kernel_rfl) (by kernel_rfl) (by kernel_rfl) (fun _ _ _ h => h) (by rfl) (by assumption) (v := ?_) ?_ ?_
          rotate_left
          · intro w' hSw
            try dsimp only at hSw
            go_simp
            try with_reducible rfl
          try simp only [Act.put, List.setIfInBounds_toArray, List.set_cons_zero, List.set_cons_succ]
          refine takeP (i := 5) rfl (by kernel_rfl) (by kernel_rfl) (by kernel_rfl) (fun _ _ _ h => h) (by rfl) (by assumption) (v := ?_) ?_ ?_
          rotate_left
          · intro w' hSw
            try dsimp only at hSw
            go_simp
            try with_reducible rfl
          try simp only [Act.put, List.setIfInBounds_toArray, List.set_cons_zero, List.set_cons_succ]
          refine takeP (i := 6) rfl (by kernel_rfl) (by kernel_rfl) (by kernel_rfl) (fun _ _ _ h => h) (by rfl) (by assumption) (v := ?_) ?_ ?_
          rotate_left
          · intro w' hSw
            try dsimp only at hSw
            go_simp
            try with_reducible rfl
          try simp only [Act.put, List.setIfInBounds_toArray, List.set_cons_zero, List.set_cons_succ]
          refine carryP2 (i := 4) (j := 7) rfl rfl (by kernel_rfl) (by rfl) (by rfl) (fun K hK => ?_) (fun K hK => ?_)
          · go_simp
            refine hK.out _ _ ?_ (fun hHeld => ?_)
            · first | exact hSst | exact hS8 | exact hS7 | exact hS0
            clear hK K
            try simp only [Act.put, List.setIfInBounds_toArray, List.set_cons_zero, List.set_cons_succ]
            refine carryP (i := 7) rfl (by kernel_rfl) (by rfl) (fun K hK => ?_)
            go_simp
            have hX7 : Below w5.heap.size w5 ((w5.alloc (.cells #[.int .u32 (p.2 : Int)] 38)).drew) := ((Below.refl w5.heap.size w5).alloc (Nat.le_refl _) _).drew
            have hl7 := (hm.last.alloc (.cells #[.int .u32 (p.2 : Int)] 38)).drew
            have hrd7 : Reads ((w5.alloc (.cells #[.int .u32 (p.2 : Int)] 38)).drew) (w5.heap.size + 1) 1 (some ⟨w5.heap.size, 0, none⟩) 1 [.int .u32 (p.2 : Int)] := (Reads.one _ _ _).drew
            have hs7 : ((w5.alloc (.cells #[.int .u32 (p.2 : Int)] 38)).drew).heap.size = w5.heap.size + 1 := by simp
            generalize (w5.alloc (.cells #[.int .u32 (p.2 : Int)] 38)).drew = w7 at hX7 hl7 hrd7 hs7 ⊢
            have hq7 := blk_below hq0 hX7 hgq
            have hy7 := blk_below hm.blk hX7 hgyl
            have hS7 : w7.cell? ⟨q, 0, none⟩ = some (.int .u64 (p.1 : Int)) ∧ w7.cell? ⟨q, 1, none⟩ = some (.int .u32 (p.2 : Int)) := ⟨blk_cell hq7 0, blk_cell hq7 1⟩
            have z7 : w7.cell? ⟨gy, j * 2 + 1, none⟩ = some (.slice Al nl cl) := by rw [blk_cell hy7]; exact hc1
            refine hK.out _ _ ?_ (fun hHeld => ?_)
            · first | exact hSst | exact hS8 | exact hS7 | exact hS0
            clear hK K
            try simp only [Act.put, List.setIfInBounds_toArray, List.set_cons_zero, List.set_cons_succ]
            refine carryP (i := 8) rfl (by kernel_rfl) (by rfl) (fun K hK => ?_)
            refine wp_append_any _ (.tmp 44) (.tmp 47) _ rfl b 38 iu _ 1 4 Try.underlying67 ui0 uz0 uz1 uz2 rfl (by omega) (.slice Al nl cl) nl _ (by rfl) hl7 (w5.heap.size + 1) (some ⟨w5.heap.size, 0, none⟩) 1 1 [.int .u32 (p.2 : Int)] (by rfl) hrd7 (by simp [Value.oneCell']) (by unfold maxLen; omega) (by omega) (by omega) ?_
            intro v8 w8 hl8 hg8 hat8
            obtain ⟨A8, c8, rfl⟩ := own_slice hl8
            obtain ⟨hy8, hgo, hbS⟩ := gso_store hm hX7 hg8 hl8
            rw [HJ.out] at hgo hbS
            have hq8 : w8.heap[q]? = some (.cells #[.int .u64 (p.1 : Int), .int .u32 (p.2 : Int)] 51 (0, 0)) := (hg8.block q (blk_lt hq7) (own_ne hl7 hq7 (by decide))).trans hq7
            have hS8 : w8.cell? ⟨q, 0, none⟩ = some (.int .u64 (p.1 : Int)) ∧ w8.cell? ⟨q, 1, none⟩ = some (.int .u32 (p.2 : Int)) := ⟨blk_cell hq8 0, blk_cell hq8 1⟩
            have z1 : w8.cell? ⟨gy, j * 2 + 1, none⟩ = some (.slice Al nl cl) := by rw [blk_cell hy8]; exact hc1
            have zf := blk_frozen hy8 (j * 2 + 1)
            refine hK.out _ _ ?_ (fun hHeld => ?_)
            · first | exact hSst | exact hS8 | exact hS7 | exact hS0
            clear hK K
            try simp only [Act.put, List.setIfInBounds_toArray, List.set_cons_zero, List.set_cons_succ]
            refine takeP (i := 9) rfl (by kernel_rfl) (by kernel_rfl) (by kernel_rfl) (fun _ _ _ h => h) (by rfl) (by assumption) (v := ?_) ?_ ?_
            rotate_left
            · intro w' hSw
              try dsimp only at hSw
              go_simp
              try with_reducible rfl
            try simp only [Act.put, List.setIfInBounds_toArray, List.set_cons_zero, List.set_cons_succ]
            refine takeP (i := 10) rfl (by kernel_rfl) (by kernel_rfl) (by kernel_rfl) (fun _ _ _ h => h) (by rfl) (by assumption) (v := ?_) ?_ ?_
            rotate_left
            · intro w' hSw
              try dsimp only at hSw
              go_simp
              try with_reducible rfl
            try simp only [Act.put, List.setIfInBounds_toArray, List.set_cons_zero, List.set_cons_succ]
            refine carryP (i := 11) rfl (by kernel_rfl) (by rfl) (fun K hK => ?_)
            have hqS := blk_far hq8 (p := ⟨gy, j * 2 + 1, none⟩) (fun e => by have e : q = gy := e; rw [e] at hq8; rw [hy8] at hq8; cases hq8) (.slice A8 (nl + 1) c8)
            have hSst : (w8.setCell ⟨gy, j * 2 + 1, none⟩ (.slice A8 (nl + 1) c8)).cell? ⟨q, 0, none⟩ = some (.int .u64 (p.1 : Int)) ∧ (w8.setCell ⟨gy, j * 2 + 1, none⟩ (.slice A8 (nl + 1) c8)).cell? ⟨q, 1, none⟩ = some (.int .u32 (p.2 : Int)) := ⟨blk_cell hqS 0, blk_cell hqS 1⟩
            go_simp
            refine hK.out _ _ ?_ (fun hHeld => ?_)
            · first | exact hSst | exact hS8 | exact hS7 | exact hS0
            clear hK K
            try simp only [Act.put, List.setIfInBounds_toArray, List.set_cons_zero, List.set_cons_succ]
            refine wpAnyH_done (by kernel_rfl) ?_ _
            clear hm hl7 hl8 hg8 hq7 hq8 hqS hrd7 hy7 hy8 hX7 z1 zf z7 hat8
            generalize w8.setCell ⟨gy, j * 2 + 1, none⟩ (.slice A8 (nl + 1) c8) = w9 at hgo hbS hS8 hSst ⊢
            go_wp2_with fail
            refine ⟨⟨k + 1, some ⟨gy, 0, none⟩, j + 1, _, hlt, by go_num, rfl, by omega, by rw [HG.out]; exact hgo, hbW.trans hbS⟩, by simp [intOf]; omega⟩
          · go_simp
            have hX7 : Below w5.heap.size w5 ((w5.alloc (.cells #[.int .u32 (p.2 : Int)] 38)).drew) := ((Below.refl w5.heap.size w5).alloc (Nat.le_refl _) _).drew
            have hl7 := (hm.last.alloc (.cells #[.int .u32 (p.2 : Int)] 38)).drew
            have hrd7 : Reads ((w5.alloc (.cells #[.int .u32 (p.2 : Int)] 38)).drew) (w5.heap.size + 1) 1 (some ⟨w5.heap.size, 0, none⟩) 1 [.int .u32 (p.2 : Int)] := (Reads.one _ _ _).drew
            have hs7 : ((w5.alloc (.cells #[.int .u32 (p.2 : Int)] 38)).drew).heap.size = w5.heap.size + 1 := by simp
            generalize (w5.alloc (.cells #[.int .u32 (p.2 : Int)] 38)).drew = w7 at hX7 hl7 hrd7 hs7 ⊢
            have hq7 := blk_below hq0 hX7 hgq
            have hy7 := blk_below hm.blk hX7 hgyl
            have hS7 : w7.cell? ⟨q, 0, none⟩ = some (.int .u64 (p.1 : Int)) ∧ w7.cell? ⟨q, 1, none⟩ = some (.int .u32 (p.2 : Int)) := ⟨blk_cell hq7 0, blk_cell hq7 1⟩
            have z7 : w7.cell? ⟨gy, j * 2 + 1, none⟩ = some (.slice Al nl cl) := by rw [blk_cell hy7]; exact hc1
            refine hK.out _ _ ?_ (fun hHeld => ?_)
            · first | exact hSst | exact hS8 | exact hS7 | exact hS0
            clear hK K
            try simp only [Act.put, List.setIfInBounds_toArray, List.set_cons_zero, List.set_cons_succ]
            refine carryP (i := 4) rfl (by kernel_rfl) (by rfl) (fun K hK => ?_)
            go_simp
            refine hK.out _ _ ?_ (fun hHeld => ?_)
            · first | exact hSst | exact hS8 | exact hS7 | exact hS0
            clear hK K
            try simp only [Act.put, List.setIfInBounds_toArray, List.set_cons_zero, List.set_cons_succ]
            refine carryP (i := 8) rfl (by kernel_rfl) (by rfl) (fun K hK => ?_)
            refine wp_append_any _ (.tmp 44) (.tmp 47) _ rfl b 38 iu _ 1 4 Try.underlying67 ui0 uz0 uz1 uz2 rfl (by omega) (.slice Al nl cl) nl _ (by rfl) hl7 (w5.heap.size + 1) (some ⟨w5.heap.size, 0, none⟩) 1 1 [.int .u32 (p.2 : Int)] (by rfl) hrd7 (by simp [Value.oneCell']) (by unfold maxLen; omega) (by omega) (by omega) ?_
            intro v8 w8 hl8 hg8 hat8
            obtain ⟨A8, c8, rfl⟩ := own_slice hl8
            obtain ⟨hy8, hgo, hbS⟩ := gso_store hm hX7 hg8 hl8
            rw [HJ.out] at hgo hbS
            have hq8 : w8.heap[q]? = some (.cells #[.int .u64 (p.1 : Int), .int .u32 (p.2 : Int)] 51 (0, 0)) := (hg8.block q (blk_lt hq7) (own_ne hl7 hq7 (by decide))).trans hq7
            have hS8 : w8.cell? ⟨q, 0, none⟩ = some (.int .u64 (p.1 : Int)) ∧ w8.cell? ⟨q, 1, none⟩ = some (.int .u32 (p.2 : Int)) := ⟨blk_cell hq8 0, blk_cell hq8 1⟩
            have z1 : w8.cell? ⟨gy, j * 2 + 1, none⟩ = some (.slice Al nl cl) := by rw [blk_cell hy8]; exact hc1
            have zf := blk_frozen hy8 (j * 2 + 1)
            refine hK.out _ _ ?_ (fun hHeld => ?_)
            · first | exact hSst | exact hS8 | exact hS7 | exact hS0
            clear hK K
            try simp only [Act.put, List.setIfInBounds_toArray, List.set_cons_zero, List.set_cons_succ]
            refine takeP (i := 9) rfl (by kernel_rfl) (by kernel_rfl) (by kernel_rfl) (fun _ _ _ h => h) (by rfl) (by assumption) (v := ?_) ?_ ?_
            rotate_left
            · intro w' hSw
              try dsimp only at hSw
              go_simp
              try with_reducible rfl
            try simp only [Act.put, List.setIfInBounds_toArray, List.set_cons_zero, List.set_cons_succ]
            refine takeP (i := 10) rfl (by kernel_rfl) (by kernel_rfl) (by kernel_rfl) (fun _ _ _ h => h) (by rfl) (by assumption) (v := ?_) ?_ ?_
            rotate_left
            · intro w' hSw
              try dsimp only at hSw
              go_simp
              try with_reducible rfl
            try simp only [Act.put, List.setIfInBounds_toArray, List.set_cons_zero, List.set_cons_succ]
            refine carryP (i := 11) rfl (by kernel_rfl) (by rfl) (fun K hK => ?_)
            have hqS := blk_far hq8 (p := ⟨gy, j * 2 + 1, none⟩) (fun e => by have e : q = gy := e; rw [e] at hq8; rw [hy8] at hq8; cases hq8) (.slice A8 (nl + 1) c8)
            have hSst : (w8.setCell ⟨gy, j * 2 + 1, none⟩ (.slice A8 (nl + 1) c8)).cell? ⟨q, 0, none⟩ = some (.int .u64 (p.1 : Int)) ∧ (w8.setCell ⟨gy, j * 2 + 1, none⟩ (.slice A8 (nl + 1) c8)).cell? ⟨q, 1, none⟩ = some (.int .u32 (p.2 : Int)) := ⟨blk_cell hqS 0, blk_cell hqS 1⟩
            go_simp
            refine hK.out _ _ ?_ (fun hHeld => ?_)
            · first | exact hSst | exact hS8 | exact hS7 | exact hS0
            clear hK K
            try simp only [Act.put, List.setIfInBounds_toArray, List.set_cons_zero, List.set_cons_succ]
            refine wpAnyH_done (by kernel_rfl) ?_ _
            clear hm hl7 hl8 hg8 hq7 hq8 hqS hrd7 hy7 hy8 hX7 z1 zf z7 hat8
            generalize w8.setCell ⟨gy, j * 2 + 1, none⟩ (.slice A8 (nl + 1) c8) = w9 at hgo hbS hS8 hSst ⊢
            go_wp2_with fail
            refine ⟨⟨k + 1, some ⟨gy, 0, none⟩, j + 1, _, hlt, by go_num, rfl, by omega, by rw [HG.out]; exact hgo, hbW.trans hbS⟩, by simp [intOf]; omega⟩
    · obtain rfl : k = ps.length := by omega
      rw [List.take_length] at hgo0
      go_wp2_with fail
      go_ret
      exact ⟨Ao, no, co, rfl, hgo0.recs hbs, hgo0.caps hbs, hbw⟩

end Go.Proofs.Ythmkmojlnfkfjaa
