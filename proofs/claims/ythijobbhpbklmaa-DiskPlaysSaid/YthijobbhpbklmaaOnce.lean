/- Layer 3: empty, by sync.Once (one goroutine). -/
import Derived.Test.YthijobbhpbklmaaDiskB
import Derived.ChangeAlike
import Derived.Test.YthijobbhpbklmaaRegion
namespace Go.Proofs.Ythijobbhpbklmaa
open Go.RowKit
set_option linter.unusedVariables false
set_option linter.unusedSimpArgs false

theorem wp_make_bytesN {P : Program} (w : World) {o : Oper} {a : Act} {K : Act → World → Prop} {Q : Exit → Act → World → Prop}
    (l c : Operand) (t : TypeId) (hop : o.op = Op.makeSlice t l c) (h1 : P.underlying t = some (.slice 5))
    (hinfo : (P.info? 5).map (fun i => (i.zero, i.size, i.bytes)) = some (some (.int .u8 0), 1, 1))
    (kl kc : IntKind) (N : Int) (hl : a.eval l = .int kl N) (hc : a.eval c = .int kc N) (n : Nat) (hN : (n : Int) = N) (b2 : n ≤ 140737488355328)
    (hK : ∀ w', RowB w' w.heap.size (List.replicate n 0) → Below w.heap.size w w' → K (a.put o.dst (.slice (some ⟨w.heap.size, 0, none⟩) n n)) w') : o.wp P a w K Q := by
  subst hN
  obtain ⟨i, h2, h3, h4, h5⟩ := info_parts hinfo
  have hrun := run_make (P := P) w t 5 i _ h1 h2 h3 kl kc (n : Int) (n : Int) (by omega) (Int.le_refl _) (by rw [h5]; omega) (by omega)
  rw [h4] at hrun
  unfold Oper.wp
  simp [execOp, hop, hl, hc, hrun, Result.andThen]
  exact hK _ (by simpa using RowB.made w n) ((Below.refl _ _).alloc (Nat.le_refl _) _)

theorem race_disable (w : World) : (callFunc 108 #[]).run Try.prog w = .ok (.value (.tuple #[])) w := run_call_mark0 Try.func108 (by kernel_rfl) (by kernel_rfl) (by kernel_rfl) .disable (by kernel_rfl) w
theorem race_enable (w : World) : (callFunc 110 #[]).run Try.prog w = .ok (.value (.tuple #[])) w := run_call_mark0 Try.func110 (by kernel_rfl) (by kernel_rfl) (by kernel_rfl) .enable (by kernel_rfl) w
theorem race_acquire (a : Addr) (w : World) : (callFunc 111 #[.pointer (some a)]).run Try.prog w = .ok (.value (.tuple #[])) w := run_call_marked Try.func111 (by kernel_rfl) (by kernel_rfl) (by kernel_rfl) .acquire (by kernel_rfl) a w
theorem race_releaseMerge (a : Addr) (w : World) : (callFunc 113 #[.pointer (some a)]).run Try.prog w = .ok (.value (.tuple #[])) w := run_call_marked Try.func113 (by kernel_rfl) (by kernel_rfl) (by kernel_rfl) .releaseMerge (by kernel_rfl) a w

theorem store_deferred (a : Addr) (x : Value) (u : FrameMode) (w : World) (hc : w.cell? a = some x) (hz : w.frozen? a = false) :
    CallsD Try.prog 90 #[.pointer (some a), .bool true] u w fun e u' w' => u' = u ∧ (e = .returned (.tuple #[]) ∧ w' = w.drew.setCell a (.int .u32 1)) := by
  have hc' : w.drew.cell? a = some x := by go_simp
  have hz' : w.drew.frozen? a = false := by go_simp
  have hst := run_call_store (P := Try.prog) Try.func95 (by kernel_rfl) (by kernel_rfl) (by kernel_rfl) (by kernel_rfl) (k := .u32) (y := 1) hc' hz'
  go_enter_d Try.func90, Try.ntmps90
  go_wp2
  go_region_calls
  all_goals (go_end0; exact ⟨rfl, rfl⟩)
set_option maxRecDepth 100000 in
set_option maxHeartbeats 1600000 in
theorem unlock_deferred (a : Addr) (u : FrameMode) (w : World) (hc : w.cell? a = some (.int .i32 1)) (hz : w.frozen? a = false) :
    CallsD Try.prog 89 #[.pointer (some a)] u w fun e u' w' => u' = u ∧ (e = .returned (.tuple #[]) ∧ w' = w.setCell a (.int .i32 0)) := by
  have hd := race_disable
  have he := race_enable
  have hr := race_releaseMerge
  have hadd := run_call_add (P := Try.prog) Try.func114 (by kernel_rfl) (by kernel_rfl) (by kernel_rfl) .i32 (by kernel_rfl) (y := -1) (s := 0) hc hz (by simp [go_sem]; rfl)
  have hcv := run_convert_to_unsafe (P := Try.prog) (src := 186) (dst := 190) Try.underlying186 Try.underlying190 (by kernel_rfl) hc
  go_enter_d Try.func89, Try.ntmps89
  go_wp2
  go_end0
  go_wp2
  go_end0
  exact ⟨rfl, rfl⟩
set_option maxRecDepth 100000 in
set_option maxHeartbeats 1600000 in
theorem lock_free (a : Addr) (w : World) (hc : w.cell? a = some (.int .i32 0)) (hz : w.frozen? a = false) :
    Calls Try.prog 88 #[.pointer (some a)] w fun e w' => e = .returned (.tuple #[]) ∧ w' = w.setCell a (.int .i32 1) := by
  have hd := race_disable
  have he := race_enable
  have ha := race_acquire
  have hcas := run_call_cas_hit (P := Try.prog) Try.func109 (by kernel_rfl) (by kernel_rfl) (by kernel_rfl) .i32 (by kernel_rfl) (y := 1) hc hz
  have hc' : (w.setCell a (.int .i32 1)).cell? a = some (.int .i32 1) := World.cell?_setCell_same w a _ hc
  have hcv := run_convert_to_unsafe (P := Try.prog) (src := 186) (dst := 190) Try.underlying186 Try.underlying190 (by kernel_rfl) hc'
  go_enter Try.func88, Try.ntmps88
  go_wp2
  first | go_end0 | (simp only [Exit.inBlock, Exit.then]; refine bodyPost_ret (results_none rfl _ _ _) rfl ?_) | refine bodyPost_ret (results_none rfl _ _ _) rfl ?_
  go_wp2
  go_end0
  exact ⟨rfl, rfl⟩

def OnceP (w : World) (p s l : Nat) (G L : Value) (fa : Int) (ca : Nat) (e : Ending) (w' : World) : Prop :=
  e = .returned (.tuple #[]) ∧ ∃ g, DBlk w' p s l G L fa ca 1 (.slice (some ⟨g, 0, none⟩) s s) ∧ RowB w' g (zeros s) ∧ w.heap.size ≤ g ∧ At p w w'

set_option maxRecDepth 100000 in
set_option maxHeartbeats 1600000 in
theorem slow_any (w : World) (p pl s l ca : Nat) (G L Z : Value) (fa : Int) (hpl : pl ≠ p) (hp : w.cell? ⟨pl, 0, none⟩ = some (.pointer (some ⟨p, 0, none⟩))) (hb : DBlk w p s l G L fa ca 0 Z) (h1 : 512 ≤ s) (h2 : s ≤ 4096) :
    Calls Try.prog 83 #[.pointer (some ⟨p, 6, none⟩), .func (.func 74) #[] #[.pointer (some ⟨pl, 0, none⟩)]] w (OnceP w p s l G L fa ca) := by
  obtain ⟨c0, _, _, _, _, _, c6, c7, _, c9⟩ := hb.cells
  have z6 := hb.free 6
  have z7 := hb.free 7
  have z9 := hb.free 9
  have hb7 : (w.setCell ⟨p, 7, none⟩ (.int .i32 1)).heap[p]? = some (.cells #[.int .i64 (s : Int), .int .i64 (l : Int), G, L, .int .i64 fa, .int .i64 (ca : Int), .int .u32 0, .int .i32 1, .int .u32 0, Z] 123 (0, 0)) := by simpa using blk_set hb 7 (.int .i32 1)
  have d0 := blk_cell hb7 0
  have d6 := blk_cell hb7 6
  have d9 := blk_cell hb7 9
  have y9 := blk_frozen hb7 9
  have hl := run_call_load (P := Try.prog) Try.func87 (by kernel_rfl) (by kernel_rfl) (by kernel_rfl) .u32 (by kernel_rfl) (w := w.setCell ⟨p, 7, none⟩ (.int .i32 1)) (a := ⟨p, 6, none⟩) (x := 0) d6
  have hp1 : (w.setCell ⟨p, 7, none⟩ (.int .i32 1)).cell? ⟨pl, 0, none⟩ = some (.pointer (some ⟨p, 0, none⟩)) := (World.cell?_setCell_other _ ⟨p, 7, none⟩ ⟨pl, 0, none⟩ _ (fun h => hpl (by injection h with h; exact h.symm))).trans hp
  have hnot : ∀ (x : Bool) (w : World), (Op.unary .not (.bool x)).run Try.prog w = .ok (.bool (!x)) w := fun _ _ => rfl
  go_enter_defers Try.func83, Try.ntmps83
  go_wp2_with (go_at_call 88; refine (lock_free ⟨p, 7, none⟩ _ c7 z7).mono ?_; rintro e w' ⟨rfl, rfl⟩)
  go_wp2
  have q0 := And.intro hp1 d0
  have hpW : p < (w.setCell ⟨p, 7, none⟩ (.int .i32 1)).heap.size := blk_lt hb7
  have hplW : pl < (w.setCell ⟨p, 7, none⟩ (.int .i32 1)).heap.size := World.block_lt_of_cell? _ _ hp1
  have hA7 : At p w (w.setCell ⟨p, 7, none⟩ (.int .i32 1)) := (At.refl p w).setCell 7 _
  have hzW : (w.setCell ⟨p, 7, none⟩ (.int .i32 1)).heap.size = w.heap.size := by simp
  generalize w.setCell ⟨p, 7, none⟩ (.int .i32 1) = W at hb7 d0 d6 d9 y9 hl hp1 q0 hpW hplW hA7 hzW ⊢
  have HZW := Lib.hid hzW
  clear hzW hp c0 c6 c7 c9 z6 z7 z9
-- REGION
  refine wp_region_held_drew (S := (fun W => W.cell? ⟨pl, 0, none⟩ = some (.pointer (some ⟨p, 0, none⟩)) ∧ W.cell? ⟨p, 0, none⟩ = some (.int .i64 (s : Int)))) (by kernel_rfl) ?_ (fun hHeld => ?_)
  · first | exact q0 | exact q1 | exact q2 _
  refine takeP (i := 0) rfl (by kernel_rfl) (by kernel_rfl) (by kernel_rfl) (fun _ _ _ h => h) (by rfl) (by assumption) (v := ?_) ?_ ?_
  rotate_left
  · intro w' hSw
    try dsimp only at hSw
    go_simp
    try with_reducible rfl
  try simp only [Act.put, List.setIfInBounds_toArray, List.set_cons_zero, List.set_cons_succ]
  refine takeP (i := 1) rfl (by kernel_rfl) (by kernel_rfl) (by kernel_rfl) (fun _ _ _ h => h) (by rfl) (by assumption) (v := ?_) ?_ ?_
  rotate_left
  · intro w' hSw
    try dsimp only at hSw
    go_simp
    try with_reducible rfl
  try simp only [Act.put, List.setIfInBounds_toArray, List.set_cons_zero, List.set_cons_succ]
  refine takeP (i := 2) rfl (by kernel_rfl) (by kernel_rfl) (by kernel_rfl) (fun _ _ _ h => h) (by rfl) (by assumption) (v := ?_) ?_ ?_
  rotate_left
  · intro w' hSw
    try dsimp only at hSw
    go_simp
    try with_reducible rfl
  try simp only [Act.put, List.setIfInBounds_toArray, List.set_cons_zero, List.set_cons_succ]
  refine takeP (i := 3) rfl (by kernel_rfl) (by kernel_rfl) (by kernel_rfl) (fun _ _ _ h => h) (by rfl) (by assumption) (v := ?_) ?_ ?_
  rotate_left
  · intro w' hSw
    try dsimp only at hSw
    go_simp
    try with_reducible rfl
  try simp only [Act.put, List.setIfInBounds_toArray, List.set_cons_zero, List.set_cons_succ]
  refine takeP (i := 4) rfl (by kernel_rfl) (by kernel_rfl) (by kernel_rfl) (fun _ _ _ h => h) (by rfl) (by assumption) (v := ?_) ?_ ?_
  rotate_left
  · intro w' hSw
    try dsimp only at hSw
    go_simp
    try with_reducible rfl
  try simp only [Act.put, List.setIfInBounds_toArray, List.set_cons_zero, List.set_cons_succ]
  refine carryP (i := 5) rfl (by kernel_rfl) (by rfl) (fun K hK => ?_)
  refine wp_make_bytesN _ (.tmp 5) (.tmp 5) _ rfl Try.underlying30 info_u8 _ _ (s : Int) rfl rfl s rfl (by omega) ?_
  intro w8 hr8 hb8
  have q1 : w8.cell? ⟨pl, 0, none⟩ = some (.pointer (some ⟨p, 0, none⟩)) ∧ w8.cell? ⟨p, 0, none⟩ = some (.int .i64 (s : Int)) := ⟨(hb8.cell (p := ⟨pl, 0, none⟩) hplW).trans q0.1, (hb8.cell (p := ⟨p, 0, none⟩) hpW).trans q0.2⟩
  have e9 : w8.cell? ⟨p, 9, none⟩ = some Z := (hb8.cell (p := ⟨p, 9, none⟩) hpW).trans d9
  have g9 : w8.frozen? ⟨p, 9, none⟩ = false := (hb8.frozen (p := ⟨p, 9, none⟩) hpW).trans y9
  refine hK.out _ _ ?_ (fun hHeld => ?_)
  · first | exact q0 | exact q1 | exact q2 _
  clear hK K
  try simp only [Act.put, List.setIfInBounds_toArray, List.set_cons_zero, List.set_cons_succ]
  refine takeP (i := 6) rfl (by kernel_rfl) (by kernel_rfl) (by kernel_rfl) (fun _ _ _ h => h) (by rfl) (by assumption) (v := ?_) ?_ ?_
  rotate_left
  · intro w' hSw
    try dsimp only at hSw
    go_simp
    try with_reducible rfl
  try simp only [Act.put, List.setIfInBounds_toArray, List.set_cons_zero, List.set_cons_succ]
  refine takeP (i := 7) rfl (by kernel_rfl) (by kernel_rfl) (by kernel_rfl) (fun _ _ _ h => h) (by rfl) (by assumption) (v := ?_) ?_ ?_
  rotate_left
  · intro w' hSw
    try dsimp only at hSw
    go_simp
    try with_reducible rfl
  try simp only [Act.put, List.setIfInBounds_toArray, List.set_cons_zero, List.set_cons_succ]
  refine carryP (i := 8) rfl (by kernel_rfl) (by rfl) (fun K hK => ?_)
  have q2 : ∀ u, (w8.setCell ⟨p, 9, none⟩ u).cell? ⟨pl, 0, none⟩ = some (.pointer (some ⟨p, 0, none⟩)) ∧ (w8.setCell ⟨p, 9, none⟩ u).cell? ⟨p, 0, none⟩ = some (.int .i64 (s : Int)) := fun u => ⟨(World.cell?_setCell_other _ ⟨p, 9, none⟩ ⟨pl, 0, none⟩ u (fun h => hpl (by injection h with h; exact h.symm))).trans q1.1, (World.cell?_setCell_other _ ⟨p, 9, none⟩ ⟨p, 0, none⟩ u (by simp)).trans q1.2⟩
  go_simp
  refine hK.out _ _ ?_ (fun hHeld => ?_)
  · first | exact q0 | exact q1 | exact q2 _
  clear hK K
  try simp only [Act.put, List.setIfInBounds_toArray, List.set_cons_zero, List.set_cons_succ]
  refine wpAnyH_done (by kernel_rfl) ?_ _
  have hb9 : (w8.setCell ⟨p, 9, none⟩ (.slice (some ⟨W.heap.size, 0, none⟩) s s)).heap[p]? = some (.cells #[.int .i64 (s : Int), .int .i64 (l : Int), G, L, .int .i64 fa, .int .i64 (ca : Int), .int .u32 0, .int .i32 1, .int .u32 0, (.slice (some ⟨W.heap.size, 0, none⟩) s s)] 123 (0, 0)) := by simpa using blk_set ((hb8.block p hpW).trans hb7) 9 (.slice (some ⟨W.heap.size, 0, none⟩) s s)
  have hr9 : RowB (w8.setCell ⟨p, 9, none⟩ (.slice (some ⟨W.heap.size, 0, none⟩) s s)) W.heap.size (List.replicate s 0) := blk_far hr8 (p := ⟨p, 9, none⟩) (by show W.heap.size ≠ p; omega) _
  have hA9 : At p w (w8.setCell ⟨p, 9, none⟩ (.slice (some ⟨W.heap.size, 0, none⟩) s s)) := (hA7.trans (At.of_below (show Below W.heap.size W w8 from ⟨hb8.os, hb8.tape, hb8.output, hb8.size, hb8.block⟩))).setCell 9 _
  obtain ⟨g, hg⟩ : ∃ g, W.heap.size = g := ⟨_, rfl⟩
  have hzW := HZW.out
  have hnp : p < W.heap.size := hpW
  rw [hg] at hb9 hr9 hA9 hzW hnp
  rw [hg]
  generalize w8.setCell ⟨p, 9, none⟩ (.slice (some ⟨g, 0, none⟩) s s) = W9 at hb9 hr9 hA9 ⊢
  clear q0 q1 q2 e9 g9 hr8 hb8 hl hp1 d0 d6 d9 y9 hb7
  go_end0
  go_wp2
  refine leaves_cons (f := 90) (args := #[.pointer (some ⟨p, 6, none⟩), .bool true]) (by simp) (by simp [go_sem]) ?_
  refine (store_deferred ⟨p, 6, none⟩ (.int .u32 0) .returning _ (blk_cell hb9 6) (blk_frozen hb9 6)).mono ?_
  rintro e u' w'' ⟨rfl, rfl, rfl⟩
  have hb10 : (W9.drew.setCell ⟨p, 6, none⟩ (.int .u32 1)).heap[p]? = some (.cells #[.int .i64 (s : Int), .int .i64 (l : Int), G, L, .int .i64 fa, .int .i64 (ca : Int), .int .u32 1, .int .i32 1, .int .u32 0, (.slice (some ⟨g, 0, none⟩) s s)] 123 (0, 0)) := by simpa using blk_set (w := W9.drew) hb9 6 (.int .u32 1)
  refine leaves_cons (f := 89) (args := #[.pointer (some ⟨p, 7, none⟩)]) (by simp [settle]) (by simp [go_sem]) ?_
  refine (unlock_deferred ⟨p, 7, none⟩ _ _ (blk_cell hb10 7) (blk_frozen hb10 7)).mono ?_
  rintro e u' w'' ⟨rfl, rfl, rfl⟩
  have hb11 : DBlk ((W9.drew.setCell ⟨p, 6, none⟩ (.int .u32 1)).setCell ⟨p, 7, none⟩ (.int .i32 0)) p s l G L fa ca 1 (.slice (some ⟨g, 0, none⟩) s s) := by unfold DBlk; simpa using blk_set hb10 7 (.int .i32 0)
  have hgp : g ≠ p := by omega
  have hr11 : RowB ((W9.drew.setCell ⟨p, 6, none⟩ (.int .u32 1)).setCell ⟨p, 7, none⟩ (.int .i32 0)) g (zeros s) := blk_far (blk_far (w := W9.drew) hr9 (p := ⟨p, 6, none⟩) hgp _) (p := ⟨p, 7, none⟩) hgp _
  have hA11 : At p w ((W9.drew.setCell ⟨p, 6, none⟩ (.int .u32 1)).setCell ⟨p, 7, none⟩ (.int .i32 0)) := (hA9.drew.setCell 6 _).setCell 7 _
  have FIN : OnceP w p s l G L fa ca (.returned (.tuple #[])) ((W9.drew.setCell ⟨p, 6, none⟩ (.int .u32 1)).setCell ⟨p, 7, none⟩ (.int .i32 0)) := ⟨rfl, g, hb11, hr11, by omega, hA11⟩
  simpa [Leaves, settle, results, Try.results83] using FIN
  -- END REGION
end Go.Proofs.Ythijobbhpbklmaa
