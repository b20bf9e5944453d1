/- From -/
import Derived.Test.YthijobbhpbklmaaDkPl4
import Derived.Test.YthijobbhpbklmaaDkPl6
set_option linter.unusedVariables false
set_option linter.unusedSimpArgs false
open List (setIfInBounds_toArray set_cons_zero set_cons_succ)
/- disk.From. -/
namespace Go.Proofs.Ythijobbhpbklmaa
open Go.RowKit Go.Shelf
attribute [local go_sem] Oper.semAt_some
attribute [-go_sem] Builtin.append_
theorem dnew_blk (w : World) (size limit : Nat) (h : NewOk (size : Int) (limit : Int)) :
    Calls Try.prog 15 #[.int .i64 (size : Int), .int .i64 (limit : Int)] w fun e w' => e = .returned (.tuple #[.pointer (some ⟨w.heap.size, 0, none⟩), .int .i64 0]) ∧ DBlk w' w.heap.size size limit (.slice none 0 0) (.slice none 0 0) (-1) 0 0 (.slice none 0 0) ∧ Below w.heap.size w w' := by
  obtain ⟨h1, h2, h3, h4, h5⟩ := h
  have d1 : decide ((size : Int) < 512) = false := decide_eq_false (by omega)
  have d2 : decide (4096 < (size : Int)) = false := decide_eq_false (by omega)
  have m1 : (size : Int).tmod 128 = 0 := by rw [Int.tmod_eq_emod_of_nonneg (by omega)]; exact h3
  have d4 : decide ((limit : Int) < 1) = false := decide_eq_false (by omega)
  have d5 : decide (65536 < (limit : Int)) = false := decide_eq_false (by omega)
  have hblk := heap_alloc_new w (.cells #[.int .i64 (size : Int), .int .i64 (limit : Int), .slice none 0 0, .slice none 0 0, .int .i64 (-1), .int .i64 0, .int .u32 0, .int .i32 0, .int .u32 0, .slice none 0 0] 123)
  go_enter Try.func15, Try.ntmps15
  go_wp2
  go_ret2
  exact ⟨rfl, hblk, (Below.refl _ _).alloc (Nat.le_refl _) _⟩
set_option maxRecDepth 100000 in
set_option maxHeartbeats 4000000 in
theorem dfrom_is (w : World) (A : Option Addr) (N c : Nat) (l : List UInt8) (size limit : Nat) (h : Sl w w.heap.size A N c l) (hnew : NewOk (size : Int) (limit : Int)) (hmod : N % size = 0) (hdiv : N / size ≤ limit) (base : Nat) (ok : Nat → Prop) (hbase : base ≤ w.heap.size) (hok : ∀ k, w.heap.size ≤ k → ok k) :
    Calls Try.prog 28 #[.slice A N c, .int .i64 (size : Int), .int .i64 (limit : Int)] w fun e w' => e = .returned (.tuple #[.pointer (some ⟨w.heap.size, 0, none⟩), .int .i64 0]) ∧ DiskAt w' base ok w.heap.size (dFrom size limit l) ∧ Below w.heap.size w w' := by
  obtain ⟨ii, hi0, hz0, hz1, hz2⟩ := info_parts info_u8
  obtain ⟨is, si0, sz0, sz1, sz2⟩ := info_parts info_sl
  have hNc := h.cap
  have hlen := h.len
  have hm1 : 1 ≤ size := by have := hnew.1; omega
  have hm2 : size ≤ 4096 := by have := hnew.2.1; omega
  have hlim : limit ≤ 65536 := by have := hnew.2.2.2.2; omega
  have hN : N ≤ 268435456 := by
    have h1 := Nat.div_add_mod N size
    rw [hmod] at h1
    have h2 : size * (N / size) ≤ 4096 * 65536 := Nat.mul_le_mul hm2 (by omega)
    omega
  have hmx : Try.prog.follows .mixedOrders = true := by kernel_rfl
  have hnz : ¬ (size : Int) = 0 := by omega
  have hrem : (N : Int).tmod (size : Int) = 0 := by rw [Int.tmod_eq_emod_of_nonneg (by omega)]; exact_mod_cast hmod
  obtain ⟨q, hq⟩ : ∃ q, N / size = q := ⟨_, rfl⟩
  have hquo : (N : Int).tdiv (size : Int) = (q : Int) := by rw [Int.tdiv_eq_ediv_of_nonneg (by omega), ← hq]; rfl
  have hquo' : (N : Int) / (size : Int) = (q : Int) := by rw [← hq]; rfl
  have dq : decide ((limit : Int) < (q : Int)) = false := decide_eq_false (by omega)
  have dq' : decide (limit < q) = false := decide_eq_false (by omega)
  have hq9 : q ≤ 65536 := by omega
  have HQ := Lib.hid hq
  have HMOD := Lib.hid hmod
  have HDIV := Lib.hid hdiv
  have HNEW := Lib.hid hnew
  clear hq hmod hdiv
  refine (callsIn_wide (n := 4)).1 ?_
  refine callsIn_of_wp_marks Try.func28 rfl trivial ?_ rfl
  simp only [Try.ntmps28, List.size_toArray, List.length_cons, List.length_nil, Nat.reduceAdd, Nat.reduceSub, Array.replicate_succ, Array.replicate_zero, List.push_toArray, List.append_toArray, List.nil_append, List.cons_append]
  have hN1 := dnew_blk w size limit hnew
  clear hnew
  obtain ⟨p, hp⟩ : ∃ p, w.heap.size = p := ⟨_, rfl⟩
  have HP := Lib.hid hp
  rw [hp] at hN1 h hok hbase ⊢
  clear hp
  gi_wp2_with (first | (refine ⟨trivial, ?_⟩; gi_at_call 15; refine (callsIn_wide.2 hN1).mono ?_; rintro e w1 ⟨rfl, hD1, hb1⟩) | (refine ⟨trivial, ?_⟩; gi_at_call 59; refine (callsIn_wide.2 (chunk_any _ _ _ _ size hm1)).mono ?_; rintro e w' ⟨rfl, rfl⟩))
  clear hN1
  have hp1 := hD1.lt
  have hs1 := hb1.size
  obtain ⟨bx, hbx⟩ : ∃ bx, w1.heap.size = bx := ⟨_, rfl⟩
  rw [HP.out] at hs1
  have hb3 : Below p w (((w1.alloc (.cells #[.pointer (some ⟨p, 0, none⟩)] 23)).alloc (.cells #[.slice A N c] 30)).alloc (.cells #[.int .i64 (size : Int)] 3)) := ((hb1.alloc (by omega) _).alloc (by simp; omega) _).alloc (by simp; omega) _
  have hD3 : DBlk (((w1.alloc (.cells #[.pointer (some ⟨p, 0, none⟩)] 23)).alloc (.cells #[.slice A N c] 30)).alloc (.cells #[.int .i64 (size : Int)] 3)) p size limit (.slice none 0 0) (.slice none 0 0) (-1) 0 0 (.slice none 0 0) := blk_alloc (blk_alloc (blk_alloc hD1 _) _) _
  have hX3 : Boxed (((w1.alloc (.cells #[.pointer (some ⟨p, 0, none⟩)] 23)).alloc (.cells #[.slice A N c] 30)).alloc (.cells #[.int .i64 (size : Int)] 3)) bx 23 (.pointer (some ⟨p, 0, none⟩)) := by
    have := ((Boxed.new w1 23 (.pointer (some ⟨p, 0, none⟩))).alloc (.cells #[.slice A N c] 30)).alloc (.cells #[.int .i64 (size : Int)] 3)
    rw [hbx] at this
    exact this
  have hcS : (((w1.alloc (.cells #[.pointer (some ⟨p, 0, none⟩)] 23)).alloc (.cells #[.slice A N c] 30)).alloc (.cells #[.int .i64 (size : Int)] 3)).cell? ⟨bx + 1, 0, none⟩ = some (.slice A N c) := by rw [← hbx]; go_simp
  have hcN : (((w1.alloc (.cells #[.pointer (some ⟨p, 0, none⟩)] 23)).alloc (.cells #[.slice A N c] 30)).alloc (.cells #[.int .i64 (size : Int)] 3)).cell? ⟨bx + 1 + 1, 0, none⟩ = some (.int .i64 (size : Int)) := by rw [← hbx]; go_simp
  have hz3 : (((w1.alloc (.cells #[.pointer (some ⟨p, 0, none⟩)] 23)).alloc (.cells #[.slice A N c] 30)).alloc (.cells #[.int .i64 (size : Int)] 3)).heap.size = bx + 1 + 1 + 1 := by rw [← hbx]; simp
  rw [hbx] at hp1 hs1 ⊢
  generalize ((w1.alloc (.cells #[.pointer (some ⟨p, 0, none⟩)] 23)).alloc (.cells #[.slice A N c] 30)).alloc (.cells #[.int .i64 (size : Int)] 3) = w3 at hb3 hD3 hX3 hcS hcN hz3 ⊢
  clear hD1 hb1 hbx
  refine wpIn_rangeFunc_ownG rfl (by omega) (gf := 76) (lb := #[.pointer (some ⟨bx + 1, 0, none⟩), .pointer (some ⟨bx + 1 + 1, 0, none⟩)]) rfl trivial (enters_of Try.func76 (by kernel_rfl) rfl)
    (chunk_stops Fence.wide _ trivial rfl (by omega) (bx + 1) (bx + 1 + 1) (bx + 1 + 1 + 1) p A N c size (by omega) hm1 hm2 hNc (by omega) (by omega) (by omega) (by omega) _ (by omega) hcS hcN)
    (fun h k => h.trans k) (fun W l o o' hl h1 h2 h3 => KB.put (by omega) W l o o' hl h1 h2 h3) (Below.refl _ _) (fun _ => rfl)
    (fun pre W => (∃ v cs, DBlk W p size limit v (.slice none 0 0) (-1) 0 0 (.slice none 0 0) ∧ Boxed W bx 23 (.pointer (some ⟨p, 0, none⟩)) ∧ W.ownsRow (bx + 1 + 1 + 1) 30 1 v pre.length cs ∧ Pieces W (bx + 1 + 1 + 1) cs (pre.map (chL l size))) ∧ Below p w3 W)
    (fun _ _ _ => False) ?own (fun _ _ _ _ _ h _ _ => h) ?start (fun k => { tmps := #[.slice A N c, .int .i64 (size : Int), .int .i64 (limit : Int), undef, undef, undef, .pointer none, .int .i64 0, .pointer (some ⟨bx, 0, none⟩), .int .i64 0, (.slice (chA A size k) (chE N size k) (chE N size k)), .tuple #[.pointer (some ⟨p, 0, none⟩), .int .i64 0], .int .i64 (size : Int), .int .i64 (limit : Int), .tuple #[.pointer (some ⟨p, 0, none⟩), .int .i64 0], .pointer (some ⟨p, 0, none⟩), .int .i64 0, .int .i64 0, .bool false, undef, .slice A N c, .int .i64 (N : Int), .int .i64 (size : Int), .int .i64 0, .bool false, .bool false, .slice A N c, .int .i64 (N : Int), .int .i64 (size : Int), .int .i64 (q : Int), .int .i64 (limit : Int), .bool false, .bool false, .slice A N c, .int .i64 (size : Int), .func (.func 76) #[] #[.pointer (some ⟨bx + 1, 0, none⟩), .pointer (some ⟨bx + 1 + 1, 0, none⟩)], (.slice (chA A size k) (chE N size k) (chE N size k)), undef, undef, undef, undef, undef, undef, undef, undef, undef, undef, undef, undef], defers := [] }) ?assign ?body ?done ?stop
  case own => exact OwnFrom.and (Own.from (from_own _ _ _ _ _ _ _) _) (ownFrom_below (by omega) (by omega))
  case start => exact ⟨⟨.slice none 0 0, [], hD3, hX3, World.ownsRow_nil _ _ _ _, Pieces.nil_ _ _⟩, Below.refl _ _⟩
  case assign =>
    intro l1 x W K hK
    gi_wp2
    exact hK
  case body =>
    rintro l1 pre x W ⟨⟨v, cs, hdk, hbox, hown, hpc⟩, hbel⟩ hlt
    obtain ⟨_, _, hcG, _⟩ := hdk.cells
    have hb := hbox.cell
    have hbd : W.drew.cell? ⟨bx, 0, none⟩ = some (.pointer (some ⟨p, 0, none⟩)) := hb
    have hcGd : W.drew.cell? ⟨p, 2, none⟩ = some v := hcG
    have hsl := ((((h.below (by rw [← HP.out] at hb3 ⊢; exact hb3)).piece size x).below hbel).below (Below.refl _ _).drew)
    have hE : chE N size x ≤ 4096 := by unfold chE; omega
    have hBW : bx < W.heap.size := hbox.lt
    have hpW : p < W.heap.size := hdk.lt
    have hB3 : bx + 1 + 1 + 1 ≤ W.heap.size := by have := hbel.size; omega
    have hpl : pre.length < N := Nat.lt_of_le_of_lt (Nat.le_mul_of_pos_right _ hm1) ((chK_iff N size _ hm1).1 hlt)
    have hvb : ∀ k, v.ownBlock = some k → bx + 1 + 1 + 1 ≤ k ∧ ∃ C fr, W.heap[k]? = some (.cells C 30 fr) := by
      intro k hk
      rcases hown.2 with ⟨rfl, _⟩ | ⟨g, cap, cur, rfl, hgb, hgc, _⟩
      · cases hk
      · cases hk
        exact ⟨hgb, _, _, hgc⟩
    gi_wp2
    -- REGION
    refine wp_round_held (S := (fun w' => w'.cell? ⟨bx, 0, none⟩ = some (.pointer (some ⟨p, 0, none⟩)))) (by kernel_rfl) (noDefer_of _ (by kernel_rfl)) ?_ (fun hHeld => ?_)
    · first | exact hb5 _ | exact hb4 | exact hb2 _ | exact hb1 | exact hbd
    refine takeP (i := 0) rfl (by kernel_rfl) (by kernel_rfl) (by kernel_rfl) (fun _ _ _ h => h) (by rfl) (by assumption) (v := ?_) ?_ ?_
    rotate_left
    · intro w' hSw
      try dsimp only at hSw
      go_simp
      try with_reducible rfl
    try simp only [Act.put, setIfInBounds_toArray, set_cons_zero, set_cons_succ]
    refine takeP (i := 1) rfl (by kernel_rfl) (by kernel_rfl) (by kernel_rfl) (fun _ _ _ h => h) (by rfl) (by assumption) (v := ?_) ?_ ?_
    rotate_left
    · intro w' hSw
      try dsimp only at hSw
      go_simp
      try with_reducible rfl
    try simp only [Act.put, setIfInBounds_toArray, set_cons_zero, set_cons_succ]
    refine takeP (i := 2) rfl (by kernel_rfl) (by kernel_rfl) (by kernel_rfl) (fun _ _ _ h => h) (by rfl) (by assumption) (v := ?_) ?_ ?_
    rotate_left
    · intro w' hSw
      try dsimp only at hSw
      go_simp
      try with_reducible rfl
    try simp only [Act.put, setIfInBounds_toArray, set_cons_zero, set_cons_succ]
    refine takeP (i := 3) rfl (by kernel_rfl) (by kernel_rfl) (by kernel_rfl) (fun _ _ _ h => h) (by rfl) (by assumption) (v := ?_) ?_ ?_
    rotate_left
    · intro w' hSw
      try dsimp only at hSw
      go_simp
      try with_reducible rfl
    try simp only [Act.put, setIfInBounds_toArray, set_cons_zero, set_cons_succ]
    refine takeP (i := 5) rfl (by kernel_rfl) (by kernel_rfl) (by kernel_rfl) (fun _ _ _ h => h) (by rfl) (by assumption) (v := ?_) ?_ ?_
    rotate_left
    · intro w' hSw
      try dsimp only at hSw
      go_simp
      try with_reducible rfl
    try simp only [Act.put, setIfInBounds_toArray, set_cons_zero, set_cons_succ]
    refine carryP2 (i := 4) (j := 6) rfl rfl (by kernel_rfl) (by rfl) (by rfl) (fun K hK => ?_) (fun K hK => ?_)
    · go_simp
      refine hK.out _ _ ?_ (fun hHeld => ?_)
      · first | exact hb5 _ | exact hb4 | exact hb2 _ | exact hb1 | exact hbd
      clear hK K
      try simp only [Act.put, setIfInBounds_toArray, set_cons_zero, set_cons_succ]
      refine carryP (i := 6) rfl (by kernel_rfl) (by rfl) (fun K hK => ?_)
      go_simp
      refine (clone_any _ p _ _ _ (chL l size x) hsl (by omega)).mono ?_
      rintro e w' ⟨v1, rfl, hown1, hbel1⟩
      obtain ⟨A1, c1, rfl⟩ := own_slice hown1
      have hbx1 : Boxed w' bx 23 (.pointer (some ⟨p, 0, none⟩)) := (hbel1.block _ hBW).trans hbox
      have hdk1 : DBlk w' p size limit v (.slice none 0 0) (-1) 0 0 (.slice none 0 0) := (hbel1.block _ hpW).trans hdk
      have hb1 : w'.cell? ⟨bx, 0, none⟩ = some (.pointer (some ⟨p, 0, none⟩)) := hbx1.cell
      have hb2 : ∀ o, (w'.alloc o).cell? ⟨bx, 0, none⟩ = some (.pointer (some ⟨p, 0, none⟩)) := (fun o => (hbx1.alloc o).cell)
      have hc1 : w'.cell? ⟨p, 2, none⟩ = some v := hdk1.cells.2.2.1
      have hc2 : ∀ o, (w'.alloc o).cell? ⟨p, 2, none⟩ = some v := (fun o => (show DBlk (w'.alloc o) p size limit v (.slice none 0 0) (-1) 0 0 (.slice none 0 0) from blk_alloc hdk1 o).cells.2.2.1)
      have hs1 := hbel1.size
      obtain ⟨v2, w2, hrun, hown2, hg2, hbk2⟩ := append_piece (w'.alloc (.cells #[.slice A1 (chE N size x) c1] 30)) _ v _ cs ((own_below hown.drew hbel1 (Nat.le_refl _)).alloc _) A1 (chE N size x) c1 w'.heap.size (by omega) (by simp at hs1 ⊢; omega) (alloc_cell0 _ _ _) (by simp)
      obtain ⟨A2, c2, rfl⟩ := own_slice hown2
      have hbx2 : Boxed w2 bx 23 (.pointer (some ⟨p, 0, none⟩)) := (hbx1.alloc _).kept hg2 (hbox.not_row (by decide) hown)
      have hdk2 : DBlk w2 p size limit v (.slice none 0 0) (-1) 0 0 (.slice none 0 0) := blk_grown (blk_alloc hdk1 _) hg2 (own_ne hown hdk (by decide))
      have hb4 := hbx2.cell
      have hb5 : ∀ u, (w2.setCell ⟨p, 2, none⟩ u).cell? ⟨bx, 0, none⟩ = some (.pointer (some ⟨p, 0, none⟩)) := fun u => (World.cell?_setCell_far _ _ _ _ (show p ≠ bx by omega)).trans hb4
      have hc4 := hdk2.cells.2.2.1
      have hf4 := hdk2.free 2
      refine hK.out _ _ ?_ (fun hHeld => ?_)
      · first | exact hb5 _ | exact hb4 | exact hb2 _ | exact hb1 | exact hbd
      clear hK K
      try simp only [Act.put, setIfInBounds_toArray, set_cons_zero, set_cons_succ]
      refine carryP (i := 7) rfl (by kernel_rfl) (by rfl) (fun K hK => ?_)
      go_simp
      refine hK.out _ _ ?_ (fun hHeld => ?_)
      · first | exact hb5 _ | exact hb4 | exact hb2 _ | exact hb1 | exact hbd
      clear hK K
      try simp only [Act.put, setIfInBounds_toArray, set_cons_zero, set_cons_succ]
      refine carryP (i := 8) rfl (by kernel_rfl) (by rfl) (fun K hK => ?_)
      go_simp
      refine hK.out _ _ ?_ (fun hHeld => ?_)
      · first | exact hb5 _ | exact hb4 | exact hb2 _ | exact hb1 | exact hbd
      clear hK K
      try simp only [Act.put, setIfInBounds_toArray, set_cons_zero, set_cons_succ]
      refine takeP (i := 9) rfl (by kernel_rfl) (by kernel_rfl) (by kernel_rfl) (fun _ _ _ h => h) (by rfl) (by assumption) (v := ?_) ?_ ?_
      rotate_left
      · intro w' hSw
        try dsimp only at hSw
        go_simp
        try with_reducible rfl
      try simp only [Act.put, setIfInBounds_toArray, set_cons_zero, set_cons_succ]
      refine takeP (i := 10) rfl (by kernel_rfl) (by kernel_rfl) (by kernel_rfl) (fun _ _ _ h => h) (by rfl) (by assumption) (v := ?_) ?_ ?_
      rotate_left
      · intro w' hSw
        try dsimp only at hSw
        go_simp
        try with_reducible rfl
      try simp only [Act.put, setIfInBounds_toArray, set_cons_zero, set_cons_succ]
      refine carryP (i := 11) rfl (by kernel_rfl) (by rfl) (fun K hK => ?_)
      go_simp
      refine hK.out _ _ ?_ (fun hHeld => ?_)
      · first | exact hb5 _ | exact hb4 | exact hb2 _ | exact hb1 | exact hbd
      clear hK K
      try simp only [Act.put, setIfInBounds_toArray, set_cons_zero, set_cons_succ]
      refine wpAnyH_done (by kernel_rfl) ?_ _
      dsimp only [onlyN]
      gi_wp2
      have hs2 := hg2.size
      simp only [World.size_alloc] at hs2
      have hs1' : W.heap.size ≤ w'.heap.size := hs1
      have hmid : ∀ k, k < W.heap.size → k ≠ p → some k ≠ v.ownBlock → (w2.setCell ⟨p, 2, none⟩ (.slice A2 (pre.length + 1) c2)).heap[k]? = W.heap[k]? := fun k hk hkB hkv =>
        (Below.heap_setCell _ _ _ k (fun e => hkB e)).trans ((hg2.block k (by simp; omega) hkv).trans ((Below.heap_alloc _ _ k (by omega)).trans (hbel1.block k hk)))
      have hb6 : Below p W (w2.setCell ⟨p, 2, none⟩ (.slice A2 (pre.length + 1) c2)) :=
        ((((((Below.refl p W).drew).trans (hbel1.mono (show p ≤ W.heap.size by omega))).alloc (by omega) _).grown hg2 (by simp; omega) (fun k hk => by have := (hvb k hk).1; omega))).setCell (Nat.le_refl _) _
      refine ⟨KeepsOthers.from ⟨hb6.size, fun k o hk ho => ?_⟩ _, ⟨hb6.size, fun k hk hkB => hmid k (by omega) hkB (fun e => ?_)⟩, ⟨_, cs ++ [.slice A1 (chE N size x) c1], hdk2.set2 _, blk_far hbx2 (show bx ≠ p by omega) _, ?_, ?_⟩, hbel.trans hb6⟩
      · refine (hmid k (blk_lt hk) (fun e => ?_) (fun e => ?_)).trans hk
        · subst e
          rw [show W.heap[k]? = _ from hdk] at hk
          cases hk
          cases ho
        · obtain ⟨_, C, fr, hC⟩ := hvb k e.symm
          rw [hC] at hk
          cases hk
          cases ho
      · have := (hvb k e.symm).1
        omega
      · rw [List.length_append]
        exact own_setCell hown2 (p := ⟨p, 2, none⟩) (own_ne (g := p) hown2 hdk2 (by decide)) _
      · rw [List.map_append]
        refine Pieces.snoc ?_ ?_
        · refine (((((hpc.kept (grown_drew W) (by simp)).below hbel1).kept (World.grownBy_alloc w' _ none) (by simp)).kept hg2 ?_).kept ((At.refl p w2).setCell 2 _) ?_)
          · intro r hr C fr hC
            obtain ⟨_, C', fr', hC'⟩ := hvb r hr
            rw [Below.heap_alloc _ _ _ (by have := blk_lt hC'; omega), hbel1.block _ (blk_lt hC')] at hC
            have := (show W.heap[r]? = _ from hC).symm.trans hC'
            cases this
          · intro r hr C fr hC
            cases hr
            rw [show w2.heap[p]? = _ from hdk2] at hC
            cases hC
        · have hq : w2.ownsRow (bx + 1 + 1 + 1) 5 1 (.slice A1 (chE N size x) c1) (chE N size x) (bv (chL l size x)) := by
            refine (own_lower (hown1.alloc _) (by simp; omega)).kept hg2 ?_
            rcases hown1.2 with ⟨hv, _⟩ | ⟨g, cap, cur, hv, hgb, _⟩
            · exact .inl (by rw [hv]; rfl)
            · refine .inr fun e => ?_
              rw [hv] at e
              obtain ⟨_, _, _, hC⟩ := hvb g e.symm
              have := blk_lt hC
              have hgb : W.heap.size ≤ g := hgb
              omega
          exact own_setCell hq (p := ⟨p, 2, none⟩) (own_ne (g := p) hq hdk2 (by decide)) _
    · go_simp
      refine (clone_any _ p _ _ _ (chL l size x) hsl (by omega)).mono ?_
      rintro e w' ⟨v1, rfl, hown1, hbel1⟩
      obtain ⟨A1, c1, rfl⟩ := own_slice hown1
      have hbx1 : Boxed w' bx 23 (.pointer (some ⟨p, 0, none⟩)) := (hbel1.block _ hBW).trans hbox
      have hdk1 : DBlk w' p size limit v (.slice none 0 0) (-1) 0 0 (.slice none 0 0) := (hbel1.block _ hpW).trans hdk
      have hb1 : w'.cell? ⟨bx, 0, none⟩ = some (.pointer (some ⟨p, 0, none⟩)) := hbx1.cell
      have hb2 : ∀ o, (w'.alloc o).cell? ⟨bx, 0, none⟩ = some (.pointer (some ⟨p, 0, none⟩)) := (fun o => (hbx1.alloc o).cell)
      have hc1 : w'.cell? ⟨p, 2, none⟩ = some v := hdk1.cells.2.2.1
      have hc2 : ∀ o, (w'.alloc o).cell? ⟨p, 2, none⟩ = some v := (fun o => (show DBlk (w'.alloc o) p size limit v (.slice none 0 0) (-1) 0 0 (.slice none 0 0) from blk_alloc hdk1 o).cells.2.2.1)
      have hs1 := hbel1.size
      obtain ⟨v2, w2, hrun, hown2, hg2, hbk2⟩ := append_piece (w'.alloc (.cells #[.slice A1 (chE N size x) c1] 30)) _ v _ cs ((own_below hown.drew hbel1 (Nat.le_refl _)).alloc _) A1 (chE N size x) c1 w'.heap.size (by omega) (by simp at hs1 ⊢; omega) (alloc_cell0 _ _ _) (by simp)
      obtain ⟨A2, c2, rfl⟩ := own_slice hown2
      have hbx2 : Boxed w2 bx 23 (.pointer (some ⟨p, 0, none⟩)) := (hbx1.alloc _).kept hg2 (hbox.not_row (by decide) hown)
      have hdk2 : DBlk w2 p size limit v (.slice none 0 0) (-1) 0 0 (.slice none 0 0) := blk_grown (blk_alloc hdk1 _) hg2 (own_ne hown hdk (by decide))
      have hb4 := hbx2.cell
      have hb5 : ∀ u, (w2.setCell ⟨p, 2, none⟩ u).cell? ⟨bx, 0, none⟩ = some (.pointer (some ⟨p, 0, none⟩)) := fun u => (World.cell?_setCell_far _ _ _ _ (show p ≠ bx by omega)).trans hb4
      have hc4 := hdk2.cells.2.2.1
      have hf4 := hdk2.free 2
      refine hK.out _ _ ?_ (fun hHeld => ?_)
      · first | exact hb5 _ | exact hb4 | exact hb2 _ | exact hb1 | exact hbd
      clear hK K
      try simp only [Act.put, setIfInBounds_toArray, set_cons_zero, set_cons_succ]
      refine carryP2 (i := 4) (j := 7) rfl rfl (by kernel_rfl) (by rfl) (by rfl) (fun K hK => ?_) (fun K hK => ?_)
      · go_simp
        refine hK.out _ _ ?_ (fun hHeld => ?_)
        · first | exact hb5 _ | exact hb4 | exact hb2 _ | exact hb1 | exact hbd
        clear hK K
        try simp only [Act.put, setIfInBounds_toArray, set_cons_zero, set_cons_succ]
        refine carryP (i := 7) rfl (by kernel_rfl) (by rfl) (fun K hK => ?_)
        go_simp
        refine hK.out _ _ ?_ (fun hHeld => ?_)
        · first | exact hb5 _ | exact hb4 | exact hb2 _ | exact hb1 | exact hbd
        clear hK K
        try simp only [Act.put, setIfInBounds_toArray, set_cons_zero, set_cons_succ]
        refine carryP (i := 8) rfl (by kernel_rfl) (by rfl) (fun K hK => ?_)
        go_simp
        refine hK.out _ _ ?_ (fun hHeld => ?_)
        · first | exact hb5 _ | exact hb4 | exact hb2 _ | exact hb1 | exact hbd
        clear hK K
        try simp only [Act.put, setIfInBounds_toArray, set_cons_zero, set_cons_succ]
        refine takeP (i := 9) rfl (by kernel_rfl) (by kernel_rfl) (by kernel_rfl) (fun _ _ _ h => h) (by rfl) (by assumption) (v := ?_) ?_ ?_
        rotate_left
        · intro w' hSw
          try dsimp only at hSw
          go_simp
          try with_reducible rfl
        try simp only [Act.put, setIfInBounds_toArray, set_cons_zero, set_cons_succ]
        refine takeP (i := 10) rfl (by kernel_rfl) (by kernel_rfl) (by kernel_rfl) (fun _ _ _ h => h) (by rfl) (by assumption) (v := ?_) ?_ ?_
        rotate_left
        · intro w' hSw
          try dsimp only at hSw
          go_simp
          try with_reducible rfl
        try simp only [Act.put, setIfInBounds_toArray, set_cons_zero, set_cons_succ]
        refine carryP (i := 11) rfl (by kernel_rfl) (by rfl) (fun K hK => ?_)
        go_simp
        refine hK.out _ _ ?_ (fun hHeld => ?_)
        · first | exact hb5 _ | exact hb4 | exact hb2 _ | exact hb1 | exact hbd
        clear hK K
        try simp only [Act.put, setIfInBounds_toArray, set_cons_zero, set_cons_succ]
        refine wpAnyH_done (by kernel_rfl) ?_ _
        dsimp only [onlyN]
        gi_wp2
        have hs2 := hg2.size
        simp only [World.size_alloc] at hs2
        have hs1' : W.heap.size ≤ w'.heap.size := hs1
        have hmid : ∀ k, k < W.heap.size → k ≠ p → some k ≠ v.ownBlock → (w2.setCell ⟨p, 2, none⟩ (.slice A2 (pre.length + 1) c2)).heap[k]? = W.heap[k]? := fun k hk hkB hkv =>
          (Below.heap_setCell _ _ _ k (fun e => hkB e)).trans ((hg2.block k (by simp; omega) hkv).trans ((Below.heap_alloc _ _ k (by omega)).trans (hbel1.block k hk)))
        have hb6 : Below p W (w2.setCell ⟨p, 2, none⟩ (.slice A2 (pre.length + 1) c2)) :=
          ((((((Below.refl p W).drew).trans (hbel1.mono (show p ≤ W.heap.size by omega))).alloc (by omega) _).grown hg2 (by simp; omega) (fun k hk => by have := (hvb k hk).1; omega))).setCell (Nat.le_refl _) _
        refine ⟨KeepsOthers.from ⟨hb6.size, fun k o hk ho => ?_⟩ _, ⟨hb6.size, fun k hk hkB => hmid k (by omega) hkB (fun e => ?_)⟩, ⟨_, cs ++ [.slice A1 (chE N size x) c1], hdk2.set2 _, blk_far hbx2 (show bx ≠ p by omega) _, ?_, ?_⟩, hbel.trans hb6⟩
        · refine (hmid k (blk_lt hk) (fun e => ?_) (fun e => ?_)).trans hk
          · subst e
            rw [show W.heap[k]? = _ from hdk] at hk
            cases hk
            cases ho
          · obtain ⟨_, C, fr, hC⟩ := hvb k e.symm
            rw [hC] at hk
            cases hk
            cases ho
        · have := (hvb k e.symm).1
          omega
        · rw [List.length_append]
          exact own_setCell hown2 (p := ⟨p, 2, none⟩) (own_ne (g := p) hown2 hdk2 (by decide)) _
        · rw [List.map_append]
          refine Pieces.snoc ?_ ?_
          · refine (((((hpc.kept (grown_drew W) (by simp)).below hbel1).kept (World.grownBy_alloc w' _ none) (by simp)).kept hg2 ?_).kept ((At.refl p w2).setCell 2 _) ?_)
            · intro r hr C fr hC
              obtain ⟨_, C', fr', hC'⟩ := hvb r hr
              rw [Below.heap_alloc _ _ _ (by have := blk_lt hC'; omega), hbel1.block _ (blk_lt hC')] at hC
              have := (show W.heap[r]? = _ from hC).symm.trans hC'
              cases this
            · intro r hr C fr hC
              cases hr
              rw [show w2.heap[p]? = _ from hdk2] at hC
              cases hC
          · have hq : w2.ownsRow (bx + 1 + 1 + 1) 5 1 (.slice A1 (chE N size x) c1) (chE N size x) (bv (chL l size x)) := by
              refine (own_lower (hown1.alloc _) (by simp; omega)).kept hg2 ?_
              rcases hown1.2 with ⟨hv, _⟩ | ⟨g, cap, cur, hv, hgb, _⟩
              · exact .inl (by rw [hv]; rfl)
              · refine .inr fun e => ?_
                rw [hv] at e
                obtain ⟨_, _, _, hC⟩ := hvb g e.symm
                have := blk_lt hC
                have hgb : W.heap.size ≤ g := hgb
                omega
            exact own_setCell hq (p := ⟨p, 2, none⟩) (own_ne (g := p) hq hdk2 (by decide)) _
      · go_simp
        refine hK.out _ _ ?_ (fun hHeld => ?_)
        · first | exact hb5 _ | exact hb4 | exact hb2 _ | exact hb1 | exact hbd
        clear hK K
        try simp only [Act.put, setIfInBounds_toArray, set_cons_zero, set_cons_succ]
        refine carryP (i := 4) rfl (by kernel_rfl) (by rfl) (fun K hK => ?_)
        go_simp
        refine hK.out _ _ ?_ (fun hHeld => ?_)
        · first | exact hb5 _ | exact hb4 | exact hb2 _ | exact hb1 | exact hbd
        clear hK K
        try simp only [Act.put, setIfInBounds_toArray, set_cons_zero, set_cons_succ]
        refine carryP (i := 8) rfl (by kernel_rfl) (by rfl) (fun K hK => ?_)
        go_simp
        refine hK.out _ _ ?_ (fun hHeld => ?_)
        · first | exact hb5 _ | exact hb4 | exact hb2 _ | exact hb1 | exact hbd
        clear hK K
        try simp only [Act.put, setIfInBounds_toArray, set_cons_zero, set_cons_succ]
        refine takeP (i := 9) rfl (by kernel_rfl) (by kernel_rfl) (by kernel_rfl) (fun _ _ _ h => h) (by rfl) (by assumption) (v := ?_) ?_ ?_
        rotate_left
        · intro w' hSw
          try dsimp only at hSw
          go_simp
          try with_reducible rfl
        try simp only [Act.put, setIfInBounds_toArray, set_cons_zero, set_cons_succ]
        refine takeP (i := 10) rfl (by kernel_rfl) (by kernel_rfl) (by kernel_rfl) (fun _ _ _ h => h) (by rfl) (by assumption) (v := ?_) ?_ ?_
        rotate_left
        · intro w' hSw
          try dsimp only at hSw
          go_simp
          try with_reducible rfl
        try simp only [Act.put, setIfInBounds_toArray, set_cons_zero, set_cons_succ]
        refine carryP (i := 11) rfl (by kernel_rfl) (by rfl) (fun K hK => ?_)
        go_simp
        refine hK.out _ _ ?_ (fun hHeld => ?_)
        · first | exact hb5 _ | exact hb4 | exact hb2 _ | exact hb1 | exact hbd
        clear hK K
        try simp only [Act.put, setIfInBounds_toArray, set_cons_zero, set_cons_succ]
        refine wpAnyH_done (by kernel_rfl) ?_ _
        dsimp only [onlyN]
        gi_wp2
        have hs2 := hg2.size
        simp only [World.size_alloc] at hs2
        have hs1' : W.heap.size ≤ w'.heap.size := hs1
        have hmid : ∀ k, k < W.heap.size → k ≠ p → some k ≠ v.ownBlock → (w2.setCell ⟨p, 2, none⟩ (.slice A2 (pre.length + 1) c2)).heap[k]? = W.heap[k]? := fun k hk hkB hkv =>
          (Below.heap_setCell _ _ _ k (fun e => hkB e)).trans ((hg2.block k (by simp; omega) hkv).trans ((Below.heap_alloc _ _ k (by omega)).trans (hbel1.block k hk)))
        have hb6 : Below p W (w2.setCell ⟨p, 2, none⟩ (.slice A2 (pre.length + 1) c2)) :=
          ((((((Below.refl p W).drew).trans (hbel1.mono (show p ≤ W.heap.size by omega))).alloc (by omega) _).grown hg2 (by simp; omega) (fun k hk => by have := (hvb k hk).1; omega))).setCell (Nat.le_refl _) _
        refine ⟨KeepsOthers.from ⟨hb6.size, fun k o hk ho => ?_⟩ _, ⟨hb6.size, fun k hk hkB => hmid k (by omega) hkB (fun e => ?_)⟩, ⟨_, cs ++ [.slice A1 (chE N size x) c1], hdk2.set2 _, blk_far hbx2 (show bx ≠ p by omega) _, ?_, ?_⟩, hbel.trans hb6⟩
        · refine (hmid k (blk_lt hk) (fun e => ?_) (fun e => ?_)).trans hk
          · subst e
            rw [show W.heap[k]? = _ from hdk] at hk
            cases hk
            cases ho
          · obtain ⟨_, C, fr, hC⟩ := hvb k e.symm
            rw [hC] at hk
            cases hk
            cases ho
        · have := (hvb k e.symm).1
          omega
        · rw [List.length_append]
          exact own_setCell hown2 (p := ⟨p, 2, none⟩) (own_ne (g := p) hown2 hdk2 (by decide)) _
        · rw [List.map_append]
          refine Pieces.snoc ?_ ?_
          · refine (((((hpc.kept (grown_drew W) (by simp)).below hbel1).kept (World.grownBy_alloc w' _ none) (by simp)).kept hg2 ?_).kept ((At.refl p w2).setCell 2 _) ?_)
            · intro r hr C fr hC
              obtain ⟨_, C', fr', hC'⟩ := hvb r hr
              rw [Below.heap_alloc _ _ _ (by have := blk_lt hC'; omega), hbel1.block _ (blk_lt hC')] at hC
              have := (show W.heap[r]? = _ from hC).symm.trans hC'
              cases this
            · intro r hr C fr hC
              cases hr
              rw [show w2.heap[p]? = _ from hdk2] at hC
              cases hC
          · have hq : w2.ownsRow (bx + 1 + 1 + 1) 5 1 (.slice A1 (chE N size x) c1) (chE N size x) (bv (chL l size x)) := by
              refine (own_lower (hown1.alloc _) (by simp; omega)).kept hg2 ?_
              rcases hown1.2 with ⟨hv, _⟩ | ⟨g, cap, cur, hv, hgb, _⟩
              · exact .inl (by rw [hv]; rfl)
              · refine .inr fun e => ?_
                rw [hv] at e
                obtain ⟨_, _, _, hC⟩ := hvb g e.symm
                have := blk_lt hC
                have hgb : W.heap.size ≤ g := hgb
                omega
            exact own_setCell hq (p := ⟨p, 2, none⟩) (own_ne (g := p) hq hdk2 (by decide)) _
  case done =>
    rintro D xs W hD rfl ⟨⟨v, cs, hdk, hbox, hown, hpc⟩, hbel⟩ hDf
    have hb := hbox.cell
    gi_wp2
    refine ⟨by simp, .inl ⟨_, _, rfl, run_takeDeferred hDf, ?_⟩⟩
    refine ⟨_, results_tmp2 rfl _ _ _, ?_⟩
    have hgp := grownBy_putObj' W D (.deferred none)
    simp only [List.length_range] at hown
    obtain ⟨A2, c2, rfl⟩ := own_slice hown
    have hKd : chK N size = N / size := chK_div N size hm1 HMOD.out
    have hno : ∀ (g : Nat) C t fr, W.heap[g]? = some (.cells C t fr) → D ≠ g := by
      intro g C t fr hg e
      subst e
      rw [hg] at hDf
      cases hDf
    have hown' := hown.kept hgp (by
      rcases hown.2 with ⟨hv, _⟩ | ⟨g, cap, cur, hv, hgb, hgc, _⟩
      · exact .inl (by rw [hv]; rfl)
      · exact .inr fun e => by
          rw [hv] at e
          injection e with e
          exact hno _ _ _ _ hgc (show D = g from (show g = D from e).symm))
    have hpc' := hpc.kept hgp (by
      intro r hr C fr hC
      injection hr with hr
      exact hno _ _ _ _ hC hr)
    have hdk' := blk_grown hdk hgp (by
      intro e
      injection e with e
      exact hno _ _ _ _ hdk e.symm)
    have hgl : (dFrom size limit l).good.length = chK N size := by
      show ((List.range (l.length / size)).map (chL l size)).length = _
      rw [List.length_map, List.length_range, hlen, hKd]
    have hgd : (dFrom size limit l).good = (List.range (chK N size)).map (chL l size) := by
      rw [hKd, ← hlen]; rfl
    refine ⟨rfl, ⟨.slice A2 (chK N size) c2, .slice none 0 0, 0, .slice none 0 0, hdk', hbase, hok p (Nat.le_refl _), ?_, ⟨none, 0, [], rfl, World.ownsRow_nil _ _ _ _, by intro k hk; simp [Value.ownBlock] at hk, by intro i l hi; simp [dFrom, dNew] at hi⟩, .inl rfl, dFrom_ok size limit l HNEW.out (by rw [hlen]; exact HMOD.out) (by rw [hlen]; exact HDIV.out), Nat.zero_le _⟩, (hb3.trans hbel).grown hgp (by have := (hb3.trans hbel).size; rw [HP.out] at this; exact this) (fun k e => by cases e; omega)⟩
    refine Pieces.grow (by rw [hgl]) (by rw [hgl]; exact hown') (by rw [hgd]; exact hpc') (by omega) (fun k hk => hok k (by omega)) ?_
    intro r hr
    rw [hgd] at hr
    obtain ⟨i, hi, rfl⟩ := List.mem_map.1 hr
    have := chL_full l size i hm1 (by rw [hlen]; exact HMOD.out) (by rw [hlen, ← hKd]; exact List.mem_range.1 hi)
    omega
  case stop =>
    rintro D c pre W _ _ h _
    exact h.elim
end Go.Proofs.Ythijobbhpbklmaa
