/- freed.compare. -/
import Derived.Test.YthmkmojlnfkfjaaFP
import Derived.Test.YthmkmojlnfkfjaaRegion
namespace Go.Proofs.Ythmkmojlnfkfjaa
open Go.RowKit
set_option linter.unusedVariables false
set_option linter.unusedSimpArgs false

set_option maxRecDepth 100000 in
set_option maxHeartbeats 4000000 in
theorem fcmp_any (a b : FP) (w : World) : Calls Try.prog 34 #[.agg #[.int .u64 (a.1 : Int), .int .u32 (a.2 : Int)], .agg #[.int .u64 (b.1 : Int), .int .u32 (b.2 : Int)]] w fun e w' => e = .returned (.int .i64 (cmpP a b)) ∧ Below w.heap.size w w' := by
  go_enter Try.func34, Try.ntmps34
  go_wp2_with fail
  have e0 := heap_alloc_new w (.cells #[.int .u64 (a.1 : Int), .int .u32 (a.2 : Int)] 51)
  have q1 := heap_alloc_new (w.alloc (.cells #[.int .u64 (a.1 : Int), .int .u32 (a.2 : Int)] 51)) (.cells #[.int .u64 (b.1 : Int), .int .u32 (b.2 : Int)] 51)
  have q0 := blk_alloc e0 (.cells #[.int .u64 (b.1 : Int), .int .u32 (b.2 : Int)] 51)
  rw [World.size_alloc] at q1
  have hb2 : Below w.heap.size w ((w.alloc (.cells #[.int .u64 (a.1 : Int), .int .u32 (a.2 : Int)] 51)).alloc (.cells #[.int .u64 (b.1 : Int), .int .u32 (b.2 : Int)] 51)) := ((Below.refl _ w).alloc (Nat.le_refl _) _).alloc (by simp) _
  generalize (w.alloc (.cells #[.int .u64 (a.1 : Int), .int .u32 (a.2 : Int)] 51)).alloc (.cells #[.int .u64 (b.1 : Int), .int .u32 (b.2 : Int)] 51) = w2 at q0 q1 hb2 ⊢
  clear e0
  obtain ⟨ga, hga⟩ : ∃ g, w.heap.size = g := ⟨_, rfl⟩
  obtain ⟨gb, hgb⟩ : ∃ g, ga + 1 = g := ⟨_, rfl⟩
  simp only [hga] at q0
  simp only [hga, hgb] at q1
  simp only [hga, hgb]
  have HS : Hid (∀ W, Below w2.heap.size w2 W → W.cell? ⟨ga, 0, none⟩ = some (.int .u64 (a.1 : Int)) ∧ W.cell? ⟨ga, 1, none⟩ = some (.int .u32 (a.2 : Int)) ∧ W.cell? ⟨gb, 0, none⟩ = some (.int .u64 (b.1 : Int)) ∧ W.cell? ⟨gb, 1, none⟩ = some (.int .u32 (b.2 : Int))) := Lib.hid fun W hW =>
    ⟨(hW.cell (p := ⟨ga, 0, none⟩) (blk_lt q0)).trans (blk_cell q0 0), (hW.cell (p := ⟨ga, 1, none⟩) (blk_lt q0)).trans (blk_cell q0 1), (hW.cell (p := ⟨gb, 0, none⟩) (blk_lt q1)).trans (blk_cell q1 0), (hW.cell (p := ⟨gb, 1, none⟩) (blk_lt q1)).trans (blk_cell q1 1)⟩
  clear q0 q1 hga hgb
  refine wp_region_held_drew (S := (fun w' => w'.cell? ⟨ga, 0, none⟩ = some (.int .u64 (a.1 : Int)) ∧ w'.cell? ⟨ga, 1, none⟩ = some (.int .u32 (a.2 : Int)) ∧ w'.cell? ⟨gb, 0, none⟩ = some (.int .u64 (b.1 : Int)) ∧ w'.cell? ⟨gb, 1, none⟩ = some (.int .u32 (b.2 : Int)))) (by kernel_rfl) ?_ (fun hHeld => ?_)
  · exact HS.out _ (by first | assumption | exact Below.refl _ _ | exact (Below.refl _ _).drew)
  refine takeP (i := 0) rfl (by kernel_rfl) (by kernel_rfl) (by kernel_rfl) (fun _ _ _ h => h) (by rfl) (by assumption) (v := ?_) ?_ ?_
  rotate_left
  · intro w' hSw
    try dsimp only at hSw
    go_simp
    try with_reducible rfl
  try simp only [Act.put, List.setIfInBounds_toArray, List.set_cons_zero, List.set_cons_succ]
  refine takeP (i := 1) rfl (by kernel_rfl) (by kernel_rfl) (by kernel_rfl) (fun _ _ _ h => h) (by rfl) (by assumption) (v := ?_) ?_ ?_
  rotate_left
  · intro w' hSw
    try dsimp only at hSw
    go_simp
    try with_reducible rfl
  try simp only [Act.put, List.setIfInBounds_toArray, List.set_cons_zero, List.set_cons_succ]
  refine takeP (i := 2) rfl (by kernel_rfl) (by kernel_rfl) (by kernel_rfl) (fun _ _ _ h => h) (by rfl) (by assumption) (v := ?_) ?_ ?_
  rotate_left
  · intro w' hSw
    try dsimp only at hSw
    go_simp
    try with_reducible rfl
  try simp only [Act.put, List.setIfInBounds_toArray, List.set_cons_zero, List.set_cons_succ]
  refine takeP (i := 3) rfl (by kernel_rfl) (by kernel_rfl) (by kernel_rfl) (fun _ _ _ h => h) (by rfl) (by assumption) (v := ?_) ?_ ?_
  rotate_left
  · intro w' hSw
    try dsimp only at hSw
    go_simp
    try with_reducible rfl
  try simp only [Act.put, List.setIfInBounds_toArray, List.set_cons_zero, List.set_cons_succ]
  refine takeP (i := 5) rfl (by kernel_rfl) (by kernel_rfl) (by kernel_rfl) (fun _ _ _ h => h) (by rfl) (by assumption) (v := ?_) ?_ ?_
  rotate_left
  · intro w' hSw
    try dsimp only at hSw
    go_simp
    try with_reducible rfl
  try simp only [Act.put, List.setIfInBounds_toArray, List.set_cons_zero, List.set_cons_succ]
  refine takeP (i := 6) rfl (by kernel_rfl) (by kernel_rfl) (by kernel_rfl) (fun _ _ _ h => h) (by rfl) (by assumption) (v := ?_) ?_ ?_
  rotate_left
  · intro w' hSw
    try dsimp only at hSw
    go_simp
    try with_reducible rfl
  try simp only [Act.put, List.setIfInBounds_toArray, List.set_cons_zero, List.set_cons_succ]
  refine takeP (i := 7) rfl (by kernel_rfl) (by kernel_rfl) (by kernel_rfl) (fun _ _ _ h => h) (by rfl) (by assumption) (v := ?_) ?_ ?_
  rotate_left
  · intro w' hSw
    try dsimp only at hSw
    go_simp
    try with_reducible rfl
  try simp only [Act.put, List.setIfInBounds_toArray, List.set_cons_zero, List.set_cons_succ]
  refine takeP (i := 8) rfl (by kernel_rfl) (by kernel_rfl) (by kernel_rfl) (fun _ _ _ h => h) (by rfl) (by assumption) (v := ?_) ?_ ?_
  rotate_left
  · intro w' hSw
    try dsimp only at hSw
    go_simp
    try with_reducible rfl
  try simp only [Act.put, List.setIfInBounds_toArray, List.set_cons_zero, List.set_cons_succ]
  refine carryP (i := 4) rfl (by kernel_rfl) (by rfl) (fun K hK => ?_)
  go_simp
  refine (cmp_u64 _ _ _).mono ?_
  rintro r w6 ⟨rfl, rfl⟩
  refine hK.out _ _ ?_ (fun hHeld => ?_)
  · exact HS.out _ (by first | assumption | exact Below.refl _ _ | exact (Below.refl _ _).drew)
  clear hK K
  try simp only [Act.put, List.setIfInBounds_toArray, List.set_cons_zero, List.set_cons_succ]
  refine carryP (i := 9) rfl (by kernel_rfl) (by rfl) (fun K hK => ?_)
  go_simp
  refine (cmp_u32 _ _ _).mono ?_
  rintro r w6 ⟨rfl, rfl⟩
  refine hK.out _ _ ?_ (fun hHeld => ?_)
  · exact HS.out _ (by first | assumption | exact Below.refl _ _ | exact (Below.refl _ _).drew)
  clear hK K
  try simp only [Act.put, List.setIfInBounds_toArray, List.set_cons_zero, List.set_cons_succ]
  refine carryP (i := 10) rfl (by kernel_rfl) (by rfl) (fun K hK => ?_)
  go_simp
  have hA7 : Below w2.heap.size w2 (w2.drew.alloc (.cells #[.int .i64 (cmpN a.1 b.1), .int .i64 (cmpN a.2 b.2)] 3)) := ((Below.refl w2.heap.size w2).drew).alloc (Nat.le_refl _) _
  have x0 := blk_cell (heap_alloc_new w2.drew (.cells #[.int .i64 (cmpN a.1 b.1), .int .i64 (cmpN a.2 b.2)] 3)) 0
  have x1 := blk_cell (heap_alloc_new w2.drew (.cells #[.int .i64 (cmpN a.1 b.1), .int .i64 (cmpN a.2 b.2)] 3)) 1
  refine hK.out _ _ ?_ (fun hHeld => ?_)
  · exact HS.out _ (by first | assumption | exact Below.refl _ _ | exact (Below.refl _ _).drew)
  clear hK K
  try simp only [Act.put, List.setIfInBounds_toArray, List.set_cons_zero, List.set_cons_succ]
  refine carryP (i := 11) rfl (by kernel_rfl) (by rfl) (fun K hK => ?_)
  go_simp
  have hor : Calls Try.prog 45 _ _ (fun e w' => e = .returned (.int .i64 (cmpP a b)) ∧ _ = w') := or_two _ w2.heap.size _ _ x0 x1
  refine hor.mono ?_
  rintro r w6 ⟨rfl, rfl⟩
  refine hK.out _ _ ?_ (fun hHeld => ?_)
  · exact HS.out _ (by first | assumption | exact Below.refl _ _ | exact (Below.refl _ _).drew)
  clear hK K
  try simp only [Act.put, List.setIfInBounds_toArray, List.set_cons_zero, List.set_cons_succ]
  refine takeP (i := 12) rfl (by kernel_rfl) (by kernel_rfl) (by kernel_rfl) (fun _ _ _ h => h) (by rfl) (by assumption) (v := ?_) ?_ ?_
  rotate_left
  · intro w' hSw
    try dsimp only at hSw
    go_simp
    try with_reducible rfl
  try simp only [Act.put, List.setIfInBounds_toArray, List.set_cons_zero, List.set_cons_succ]
  refine wpAnyH_done (by kernel_rfl) ?_ _
  go_wp2_with fail
  go_ret
  exact ⟨rfl, hb2.trans ((((Below.refl w2.heap.size w2).alloc (Nat.le_refl _) _).drew).mono hb2.size)⟩

end Go.Proofs.Ythmkmojlnfkfjaa
