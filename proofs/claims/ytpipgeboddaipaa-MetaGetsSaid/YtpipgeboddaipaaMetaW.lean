/- Layer 7's reference: Get. -/
import Derived.Test.YtpipgeboddaipaaMetaV
import Derived.Deep.QuietTactic
import Derived.BigQuiet
import Derived.Test.YtpipgeboddaipaaRegion
namespace Go.Proofs.Ytpipgeboddaipaa
open Go.RowKit
set_option linter.unusedVariables false
set_option linter.unusedSimpArgs false

set_option maxRecDepth 20000 in
set_option maxHeartbeats 1000000 in
theorem rget_short (w : World) (s : ByteArray) (l : List UInt8) (hs : Hid (s = st l)) (hl : s.size < 512) :
    Calls Try.prog 19 #[.string s] w fun r w' => r = .returned (.tuple #[metaV none, .int .i64 11]) ∧ Below w.heap.size w w' := by
  have d1 : decide ((s.size : Int) < 512) = true := decide_eq_true (by omega)
  have hb0 : Below w.heap.size w (w.alloc (.cells #[.int .u64 0, .int .u32 0, .int .u32 0, .int .u32 0] 30)) := (Below.refl _ _).alloc (Nat.le_refl _) _
  go_enter Try.func19, Try.ntmps19
  go_wp2
  go_quiet (fail)
  go_wp2
  refine bodyPost_ret (v := .tuple #[.agg #[.int .u64 0, .int .u32 0, .int .u32 0, .int .u32 0], .int .i64 11]) (by simp [results, Try.results19, go_sem]) rfl ⟨rfl, ?_⟩
  exact below4 (below_drewN hb0 _) (Nat.le_refl _) _ _ _ _

set_option maxRecDepth 20000 in
set_option maxHeartbeats 1000000 in
theorem rget_long (w : World) (s : ByteArray) (l : List UInt8) (hs : Hid (s = st l)) (hl : 4096 < s.size) (hl2 : s.size ≤ 140737488355328) :
    Calls Try.prog 19 #[.string s] w fun r w' => r = .returned (.tuple #[metaV none, .int .i64 11]) ∧ Below w.heap.size w w' := by
  have d1 : decide ((s.size : Int) < 512) = false := decide_eq_false (by omega)
  have d2 : decide (4096 < (s.size : Int)) = true := decide_eq_true (by omega)
  have hb0 : Below w.heap.size w (w.alloc (.cells #[.int .u64 0, .int .u32 0, .int .u32 0, .int .u32 0] 30)) := (Below.refl _ _).alloc (Nat.le_refl _) _
  go_enter Try.func19, Try.ntmps19
  go_wp2
  go_quiet (fail)
  go_wp2
  refine bodyPost_ret (v := .tuple #[.agg #[.int .u64 0, .int .u32 0, .int .u32 0, .int .u32 0], .int .i64 11]) (by simp [results, Try.results19, go_sem]) rfl ⟨rfl, ?_⟩
  exact below4 (below_drewN hb0 _) (Nat.le_refl _) _ _ _ _

set_option maxRecDepth 20000 in
set_option maxHeartbeats 1000000 in
theorem rget_mark (w : World) (s : ByteArray) (l : List UInt8) (hs : Hid (s = st l)) (hl1 : 512 ≤ s.size) (hl2 : s.size ≤ 4096) (hm : ¬ l.take 4 = [82, 85, 66, 49]) :
    Calls Try.prog 19 #[.string s] w fun r w' => r = .returned (.tuple #[metaV none, .int .i64 11]) ∧ Below w.heap.size w w' := by
  have d1 : decide ((s.size : Int) < 512) = false := decide_eq_false (by omega)
  have d2 : decide (4096 < (s.size : Int)) = false := decide_eq_false (by omega)
  have b4 : (4 : Int) ≤ (s.size : Int) := by omega
  have e4 : (s.extract 0 4).toList = l.take 4 := by rw [hs.out, st_extract]; simp
  have d3 : ((s.extract 0 4).toList == [82, 85, 66, 49]) = false := by rw [e4]; simpa using hm
  have d3p : ¬ (s.extract 0 4).toList = [82, 85, 66, 49] := by rw [e4]; exact hm
  clear e4 hm
  have hb0 : Below w.heap.size w (w.alloc (.cells #[.int .u64 0, .int .u32 0, .int .u32 0, .int .u32 0] 30)) := (Below.refl _ _).alloc (Nat.le_refl _) _
  go_enter Try.func19, Try.ntmps19
  go_wp2
  go_quiet (fail)
  go_wp2
  refine bodyPost_ret (v := .tuple #[.agg #[.int .u64 0, .int .u32 0, .int .u32 0, .int .u32 0], .int .i64 11]) (by simp [results, Try.results19, go_sem]) rfl ⟨rfl, ?_⟩
  exact below4 (below_drewN hb0 _) (Nat.le_refl _) _ _ _ _

set_option maxRecDepth 20000 in
set_option maxHeartbeats 1000000 in
theorem rget_num (w : World) (s : ByteArray) (l : List UInt8) (hs : Hid (s = st l)) (hl1 : 512 ≤ s.size) (hl2 : s.size ≤ 4096) (hm : l.take 4 = [82, 85, 66, 49]) (hn : ¬ numAt l 4 4 = l.length) :
    Calls Try.prog 19 #[.string s] w fun r w' => r = .returned (.tuple #[metaV none, .int .i64 11]) ∧ Below w.heap.size w w' := by
  have d1 : decide ((s.size : Int) < 512) = false := decide_eq_false (by omega)
  have d2 : decide (4096 < (s.size : Int)) = false := decide_eq_false (by omega)
  have b4 : (4 : Int) ≤ (s.size : Int) := by omega
  have e4 : (s.extract 0 4).toList = l.take 4 := by rw [hs.out, st_extract]; simp
  have d3 : ((s.extract 0 4).toList == [82, 85, 66, 49]) = true := by rw [e4]; simpa using hm
  have d3p : (s.extract 0 4).toList = [82, 85, 66, 49] := by rw [e4]; exact hm
  clear e4 hm
  have hb0 : Below w.heap.size w (w.alloc (.cells #[.int .u64 0, .int .u32 0, .int .u32 0, .int .u32 0] 30)) := (Below.refl _ _).alloc (Nat.le_refl _) _
  have hll : s.size = l.length := by rw [hs.out, st_size]
  have hnum := fun w : World => rnumat_i w l 4 4 (by omega) (by omega) (by omega) (by omega) (by omega)
  obtain ⟨X, hX⟩ : ∃ X, numAt l 4 4 = X := ⟨_, rfl⟩
  rw [show (4 : Int).toNat = 4 from rfl, hX, ← hs.out] at hnum
  rw [hX, ← hll] at hn
  have d4 : ((X : Int) != (s.size : Int)) = true := by rw [bne_iff_ne]; omega
  have d4b : ((X : Int) == (s.size : Int)) = false := by rw [beq_eq_false_iff_ne]; omega
  have d4n : (X == s.size) = false := by rw [beq_eq_false_iff_ne]; omega
  have HNUM := Lib.hid hnum
  have d4p := hn
  have HLL := Lib.hid hll
  have hr0 := heap_alloc_new w (.cells #[.int .u64 0, .int .u32 0, .int .u32 0, .int .u32 0] 30)
  have hc0 : HC w w.heap.size 30 (.int .u64 0) (.int .u32 0) (.int .u32 0) (.int .u32 0) (w.alloc (.cells #[.int .u64 0, .int .u32 0, .int .u32 0, .int .u32 0] 30)).drew := ⟨hr0, hb0.drew⟩
  have hlw : IntKind.u64.wrap (s.size : Int) = (s.size : Int) := IntWalk.u64_in _ (by omega)
  clear hX hn hnum hr0 hb0 hll
  go_enter Try.func19, Try.ntmps19
  go_wp2
  refine wp_region_held_drew (S := (fun w' => HC w w.heap.size 30 (.int .u64 0) (.int .u32 0) (.int .u32 0) (.int .u32 0) w')) (by kernel_rfl) ?_ (fun hHeld => ?_)
  · assumption
  refine takeP (i := 0) rfl (by kernel_rfl) (by kernel_rfl) (by kernel_rfl) (fun _ _ _ h => h) (by rfl) (by assumption) (v := ?_) ?_ ?_
  rotate_left
  · intro w' hSw
    try dsimp only at hSw
    go_simp
    try with_reducible rfl
  try simp only [Act.put, List.setIfInBounds_toArray, List.set_cons_zero, List.set_cons_succ]
  refine takeP (i := 1) rfl (by kernel_rfl) (by kernel_rfl) (by kernel_rfl) (fun _ _ _ h => h) (by rfl) (by assumption) (v := ?_) ?_ ?_
  rotate_left
  · intro w' hSw
    try dsimp only at hSw
    go_simp
    try with_reducible rfl
  try simp only [Act.put, List.setIfInBounds_toArray, List.set_cons_zero, List.set_cons_succ]
  refine takeP (i := 2) rfl (by kernel_rfl) (by kernel_rfl) (by kernel_rfl) (fun _ _ _ h => h) (by rfl) (by assumption) (v := ?_) ?_ ?_
  rotate_left
  · intro w' hSw
    try dsimp only at hSw
    go_simp
    try with_reducible rfl
  try simp only [Act.put, List.setIfInBounds_toArray, List.set_cons_zero, List.set_cons_succ]
  refine takeP (i := 3) rfl (by kernel_rfl) (by kernel_rfl) (by kernel_rfl) (fun _ _ _ h => h) (by rfl) (by assumption) (v := ?_) ?_ ?_
  rotate_left
  · intro w' hSw
    try dsimp only at hSw
    go_simp
    try with_reducible rfl
  try simp only [Act.put, List.setIfInBounds_toArray, List.set_cons_zero, List.set_cons_succ]
  refine takeP (i := 4) rfl (by kernel_rfl) (by kernel_rfl) (by kernel_rfl) (fun _ _ _ h => h) (by rfl) (by assumption) (v := ?_) ?_ ?_
  rotate_left
  · intro w' hSw
    try dsimp only at hSw
    go_simp
    try with_reducible rfl
  try simp only [Act.put, List.setIfInBounds_toArray, List.set_cons_zero, List.set_cons_succ]
  refine takeP (i := 5) rfl (by kernel_rfl) (by kernel_rfl) (by kernel_rfl) (fun _ _ _ h => h) (by rfl) (by assumption) (v := ?_) ?_ ?_
  rotate_left
  · intro w' hSw
    try dsimp only at hSw
    go_simp
    try with_reducible rfl
  try simp only [Act.put, List.setIfInBounds_toArray, List.set_cons_zero, List.set_cons_succ]
  refine takeP (i := 6) rfl (by kernel_rfl) (by kernel_rfl) (by kernel_rfl) (fun _ _ _ h => h) (by rfl) (by assumption) (v := ?_) ?_ ?_
  rotate_left
  · intro w' hSw
    try dsimp only at hSw
    go_simp
    try with_reducible rfl
  try simp only [Act.put, List.setIfInBounds_toArray, List.set_cons_zero, List.set_cons_succ]
  refine takeP (i := 7) rfl (by kernel_rfl) (by kernel_rfl) (by kernel_rfl) (fun _ _ _ h => h) (by rfl) (by assumption) (v := ?_) ?_ ?_
  rotate_left
  · intro w' hSw
    try dsimp only at hSw
    go_simp
    try with_reducible rfl
  try simp only [Act.put, List.setIfInBounds_toArray, List.set_cons_zero, List.set_cons_succ]
  refine takeP (i := 8) rfl (by kernel_rfl) (by kernel_rfl) (by kernel_rfl) (fun _ _ _ h => h) (by rfl) (by assumption) (v := ?_) ?_ ?_
  rotate_left
  · intro w' hSw
    try dsimp only at hSw
    go_simp
    try with_reducible rfl
  try simp only [Act.put, List.setIfInBounds_toArray, List.set_cons_zero, List.set_cons_succ]
  refine takeP (i := 9) rfl (by kernel_rfl) (by kernel_rfl) (by kernel_rfl) (fun _ _ _ h => h) (by rfl) (by assumption) (v := ?_) ?_ ?_
  rotate_left
  · intro w' hSw
    try dsimp only at hSw
    go_simp
    try with_reducible rfl
  try simp only [Act.put, List.setIfInBounds_toArray, List.set_cons_zero, List.set_cons_succ]
  refine takeP (i := 10) rfl (by kernel_rfl) (by kernel_rfl) (by kernel_rfl) (fun _ _ _ h => h) (by rfl) (by assumption) (v := ?_) ?_ ?_
  rotate_left
  · intro w' hSw
    try dsimp only at hSw
    go_simp
    try with_reducible rfl
  try simp only [Act.put, List.setIfInBounds_toArray, List.set_cons_zero, List.set_cons_succ]
  refine takeP (i := 11) rfl (by kernel_rfl) (by kernel_rfl) (by kernel_rfl) (fun _ _ _ h => h) (by rfl) (by assumption) (v := ?_) ?_ ?_
  rotate_left
  · intro w' hSw
    try dsimp only at hSw
    go_simp
    try with_reducible rfl
  try simp only [Act.put, List.setIfInBounds_toArray, List.set_cons_zero, List.set_cons_succ]
  refine takeP (i := 12) rfl (by kernel_rfl) (by kernel_rfl) (by kernel_rfl) (fun _ _ _ h => h) (by rfl) (by assumption) (v := ?_) ?_ ?_
  rotate_left
  · intro w' hSw
    try dsimp only at hSw
    go_simp
    try with_reducible rfl
  try simp only [Act.put, List.setIfInBounds_toArray, List.set_cons_zero, List.set_cons_succ]
  refine takeP (i := 13) rfl (by kernel_rfl) (by kernel_rfl) (by kernel_rfl) (fun _ _ _ h => h) (by rfl) (by assumption) (v := ?_) ?_ ?_
  rotate_left
  · intro w' hSw
    try dsimp only at hSw
    go_simp
    try with_reducible rfl
  try simp only [Act.put, List.setIfInBounds_toArray, List.set_cons_zero, List.set_cons_succ]
  refine takeP (i := 14) rfl (by kernel_rfl) (by kernel_rfl) (by kernel_rfl) (fun _ _ _ h => h) (by rfl) (by assumption) (v := ?_) ?_ ?_
  rotate_left
  · intro w' hSw
    try dsimp only at hSw
    go_simp
    try with_reducible rfl
  try simp only [Act.put, List.setIfInBounds_toArray, List.set_cons_zero, List.set_cons_succ]
  refine takeP (i := 16) rfl (by kernel_rfl) (by kernel_rfl) (by kernel_rfl) (fun _ _ _ h => h) (by rfl) (by assumption) (v := ?_) ?_ ?_
  rotate_left
  · intro w' hSw
    try dsimp only at hSw
    go_simp
    try with_reducible rfl
  try simp only [Act.put, List.setIfInBounds_toArray, List.set_cons_zero, List.set_cons_succ]
  refine takeP (i := 17) rfl (by kernel_rfl) (by kernel_rfl) (by kernel_rfl) (fun _ _ _ h => h) (by rfl) (by assumption) (v := ?_) ?_ ?_
  rotate_left
  · intro w' hSw
    try dsimp only at hSw
    go_simp
    try with_reducible rfl
  try simp only [Act.put, List.setIfInBounds_toArray, List.set_cons_zero, List.set_cons_succ]
  refine takeP (i := 18) rfl (by kernel_rfl) (by kernel_rfl) (by kernel_rfl) (fun _ _ _ h => h) (by rfl) (by assumption) (v := ?_) ?_ ?_
  rotate_left
  · intro w' hSw
    try dsimp only at hSw
    go_simp
    try with_reducible rfl
  try simp only [Act.put, List.setIfInBounds_toArray, List.set_cons_zero, List.set_cons_succ]
  refine carryP (i := 15) rfl (by kernel_rfl) (by rfl) (fun K hK => ?_)
  go_simp
  refine (HNUM.out _).mono ?_
  rintro r wn ⟨rfl, hbn⟩
  have hcn := HC.below hbn hc0
  go_wp2_with fail
  refine hK.out _ _ ?_ (fun hHeld => ?_)
  · assumption
  clear hK K
  try simp only [Act.put, List.setIfInBounds_toArray, List.set_cons_zero, List.set_cons_succ]
  refine takeP (i := 19) rfl (by kernel_rfl) (by kernel_rfl) (by kernel_rfl) (fun _ _ _ h => h) (by rfl) (by assumption) (v := ?_) ?_ ?_
  rotate_left
  · intro w' hSw
    try dsimp only at hSw
    go_simp
    try with_reducible rfl
  try simp only [Act.put, List.setIfInBounds_toArray, List.set_cons_zero, List.set_cons_succ]
  refine takeP (i := 20) rfl (by kernel_rfl) (by kernel_rfl) (by kernel_rfl) (fun _ _ _ h => h) (by rfl) (by assumption) (v := ?_) ?_ ?_
  rotate_left
  · intro w' hSw
    try dsimp only at hSw
    go_simp
    try with_reducible rfl
  try simp only [Act.put, List.setIfInBounds_toArray, List.set_cons_zero, List.set_cons_succ]
  refine takeP (i := 21) rfl (by kernel_rfl) (by kernel_rfl) (by kernel_rfl) (fun _ _ _ h => h) (by rfl) (by assumption) (v := ?_) ?_ ?_
  rotate_left
  · intro w' hSw
    try dsimp only at hSw
    go_simp
    try with_reducible rfl
  try simp only [Act.put, List.setIfInBounds_toArray, List.set_cons_zero, List.set_cons_succ]
  refine takeN (i := 22) rfl (by kernel_rfl) (by kernel_rfl) (by kernel_rfl) (fun _ _ _ h => h) (by rfl) (by assumption) ?_
  try simp only [Act.put, List.setIfInBounds_toArray, List.set_cons_zero, List.set_cons_succ]
  refine takeN (i := 23) rfl (by kernel_rfl) (by kernel_rfl) (by kernel_rfl) (fun _ _ _ h => h) (by rfl) (by assumption) ?_
  try simp only [Act.put, List.setIfInBounds_toArray, List.set_cons_zero, List.set_cons_succ]
  refine takeN (i := 24) rfl (by kernel_rfl) (by kernel_rfl) (by kernel_rfl) (fun _ _ _ h => h) (by rfl) (by assumption) ?_
  try simp only [Act.put, List.setIfInBounds_toArray, List.set_cons_zero, List.set_cons_succ]
  refine takeN (i := 25) rfl (by kernel_rfl) (by kernel_rfl) (by kernel_rfl) (fun _ _ _ h => h) (by rfl) (by assumption) ?_
  try simp only [Act.put, List.setIfInBounds_toArray, List.set_cons_zero, List.set_cons_succ]
  refine takeN (i := 26) rfl (by kernel_rfl) (by kernel_rfl) (by kernel_rfl) (fun _ _ _ h => h) (by rfl) (by assumption) ?_
  try simp only [Act.put, List.setIfInBounds_toArray, List.set_cons_zero, List.set_cons_succ]
  refine takeN (i := 27) rfl (by kernel_rfl) (by kernel_rfl) (by kernel_rfl) (fun _ _ _ h => h) (by rfl) (by assumption) ?_
  try simp only [Act.put, List.setIfInBounds_toArray, List.set_cons_zero, List.set_cons_succ]
  refine takeN (i := 28) rfl (by kernel_rfl) (by kernel_rfl) (by kernel_rfl) (fun _ _ _ h => h) (by rfl) (by assumption) ?_
  try simp only [Act.put, List.setIfInBounds_toArray, List.set_cons_zero, List.set_cons_succ]
  refine takeN (i := 29) rfl (by kernel_rfl) (by kernel_rfl) (by kernel_rfl) (fun _ _ _ h => h) (by rfl) (by assumption) ?_
  try simp only [Act.put, List.setIfInBounds_toArray, List.set_cons_zero, List.set_cons_succ]
  refine takeP (i := 30) rfl (by kernel_rfl) (by kernel_rfl) (by kernel_rfl) (fun _ _ _ h => h) (by rfl) (by assumption) (v := ?_) ?_ ?_
  rotate_left
  · intro w' hSw
    try dsimp only at hSw
    go_simp
    try with_reducible rfl
  try simp only [Act.put, List.setIfInBounds_toArray, List.set_cons_zero, List.set_cons_succ]
  refine wpAnyH_done (by kernel_rfl) ?_ _
  obtain ⟨⟨a0, a1, a2, a3⟩, f0, f1, f2, f3⟩ := cell4 hcn.1
  have hbz := below4 hcn.2 (Nat.le_refl _) (.int .u64 0) (.int .u32 0) (.int .u32 0) (.int .u32 0)
  obtain ⟨⟨t0, t1, t2, t3⟩, _⟩ := cell4 (set4 hcn.1 (.int .u64 0) (.int .u32 0) (.int .u32 0) (.int .u32 0))
  clear hcn hc0 HNUM hbn
  go_wp2
  exact bodyPost_ret (v := .tuple #[.agg #[.int .u64 0, .int .u32 0, .int .u32 0, .int .u32 0], .int .i64 11]) (by simp [results, Try.results19, go_sem, t0, t1, t2, t3]) rfl ⟨rfl, hbz⟩

theorem HC.alloc' {W : World} {G : Nat} {t : TypeId} {a b c d : Value} {w : World} (h : HC W G t a b c d w) (o : Obj) : HC W G t a b c d (w.alloc o) := ⟨blk_alloc h.1 o, h.2.alloc h.2.size o⟩

set_option maxRecDepth 20000 in
set_option maxHeartbeats 1000000 in
theorem rget_tail (w : World) (s : ByteArray) (l : List UInt8) (hs : Hid (s = st l)) (hl1 : 512 ≤ s.size) (hl2 : s.size ≤ 4096) (hm : l.take 4 = [82, 85, 66, 49]) (hn : numAt l 4 4 = l.length) (hd : ¬ l.drop 32 = List.replicate (l.length - 32) 0) :
    Calls Try.prog 19 #[.string s] w fun r w' => r = .returned (.tuple #[metaV none, .int .i64 11]) ∧ Below w.heap.size w w' := by
  have d1 : decide ((s.size : Int) < 512) = false := decide_eq_false (by omega)
  have d2 : decide (4096 < (s.size : Int)) = false := decide_eq_false (by omega)
  have b4 : (4 : Int) ≤ (s.size : Int) := by omega
  have e4 : (s.extract 0 4).toList = l.take 4 := by rw [hs.out, st_extract]; simp
  have d3 : ((s.extract 0 4).toList == [82, 85, 66, 49]) = true := by rw [e4]; simpa using hm
  have d3p : (s.extract 0 4).toList = [82, 85, 66, 49] := by rw [e4]; exact hm
  clear e4 hm
  have hb0 : Below w.heap.size w (w.alloc (.cells #[.int .u64 0, .int .u32 0, .int .u32 0, .int .u32 0] 30)) := (Below.refl _ _).alloc (Nat.le_refl _) _
  have hll : s.size = l.length := by rw [hs.out, st_size]
  have hnum := fun w : World => rnumat_i w l 4 4 (by omega) (by omega) (by omega) (by omega) (by omega)
  obtain ⟨X, hX⟩ : ∃ X, numAt l 4 4 = X := ⟨_, rfl⟩
  rw [show (4 : Int).toNat = 4 from rfl, hX, ← hs.out] at hnum
  rw [hX, ← hll] at hn
  have d4 : ((X : Int) != (s.size : Int)) = false := by rw [hn]; simp
  have d4b : ((X : Int) == (s.size : Int)) = true := by rw [hn]; simp
  have d4n : (X == s.size) = true := by rw [hn]; simp
  have HNUM := Lib.hid hnum
  have d4p := hn
  have HLL := Lib.hid hll
  have hr0 := heap_alloc_new w (.cells #[.int .u64 0, .int .u32 0, .int .u32 0, .int .u32 0] 30)
  have hc0 : HC w w.heap.size 30 (.int .u64 0) (.int .u32 0) (.int .u32 0) (.int .u32 0) (w.alloc (.cells #[.int .u64 0, .int .u32 0, .int .u32 0, .int .u32 0] 30)).drew := ⟨hr0, hb0.drew⟩
  have hlw : IntKind.u64.wrap (s.size : Int) = (s.size : Int) := IntWalk.u64_in _ (by omega)
  clear hX hn hnum hr0 hb0 hll
  obtain ⟨Z, hZ⟩ : ∃ Z, st (List.replicate (s.size - 32) 0) = Z := ⟨_, rfl⟩
  have b32 : (32 : Int) ≤ (s.size : Int) := by omega
  have b32' : (0 : Int) ≤ (s.size : Int) - 32 := by omega
  have e32 : (s.extract 32 s.size).toList = l.drop 32 := by rw [hs.out, st_extract, st_size, List.take_of_length_le (Nat.le_refl _)]; simp
  have eZ : Z.toList = List.replicate (s.size - 32) 0 := by rw [← hZ]; simp
  have hll2 : s.size = l.length := HLL.out
  have d5 : ((s.extract 32 s.size).toList == Z.toList) = false := by rw [e32, eZ, hll2]; simpa using hd
  have d5p : ¬ (s.extract 32 s.size).toList = Z.toList := by rw [e32, eZ, hll2]; exact hd
  obtain ⟨ii, hi0, hz0, hz1, hz2⟩ := info_parts info_u8
  have hsub : IntKind.i64.wrap ((s.size : Int) - 32) = (s.size : Int) - 32 := IntWalk.i64_in _ (by omega)
  have hmk := fun W : World => run_make (P := Try.prog) W 33 5 ii _ Try.underlying33 hi0 hz0 .i64 .i64 ((s.size : Int) - 32) ((s.size : Int) - 32) (by omega) (Int.le_refl _) (by rw [hz2]; omega) (by omega)
  have htn : ((s.size : Int) - 32).toNat = s.size - 32 := by omega
  rw [hz1, htn] at hmk
  have hcv : ∀ W : World, (convert 33 9 (.slice (some ⟨W.heap.size, 0, none⟩) (s.size - 32) (s.size - 32))).run Try.prog (W.alloc (.cells (madeCells #[Value.int .u8 0] (s.size - 32)) 5)) = .ok (.string Z) (W.alloc (.cells (madeCells #[Value.int .u8 0] (s.size - 32)) 5)) := by
    intro W
    rw [← hZ]
    have hrow : RowB (W.alloc (.cells (madeCells #[Value.int .u8 0] (s.size - 32)) 5)) W.heap.size (List.replicate (s.size - 32) 0) := by have h0 := RowB.made W (s.size - 32); rw [Nat.mul_one] at h0; exact h0
    exact string_of_sl (P := Try.prog) Try.underlying33 Try.underlying5 Try.underlying9 (hrow.slN (n := s.size - 32) (by simp) (by omega))
  clear hd e32 eZ hZ hi0 hz0 hz1 hz2 htn hll2
  go_enter Try.func19, Try.ntmps19
  go_wp2
  refine wp_region_held_drew (S := (fun w' => HC w w.heap.size 30 (.int .u64 0) (.int .u32 0) (.int .u32 0) (.int .u32 0) w')) (by kernel_rfl) ?_ (fun hHeld => ?_)
  · first | assumption | exact HC.alloc' (by assumption) _
  refine takeP (i := 0) rfl (by kernel_rfl) (by kernel_rfl) (by kernel_rfl) (fun _ _ _ h => h) (by rfl) (by assumption) (v := ?_) ?_ ?_
  rotate_left
  · intro w' hSw
    try dsimp only at hSw
    go_simp
    try with_reducible rfl
  try simp only [Act.put, List.setIfInBounds_toArray, List.set_cons_zero, List.set_cons_succ]
  refine takeP (i := 1) rfl (by kernel_rfl) (by kernel_rfl) (by kernel_rfl) (fun _ _ _ h => h) (by rfl) (by assumption) (v := ?_) ?_ ?_
  rotate_left
  · intro w' hSw
    try dsimp only at hSw
    go_simp
    try with_reducible rfl
  try simp only [Act.put, List.setIfInBounds_toArray, List.set_cons_zero, List.set_cons_succ]
  refine takeP (i := 2) rfl (by kernel_rfl) (by kernel_rfl) (by kernel_rfl) (fun _ _ _ h => h) (by rfl) (by assumption) (v := ?_) ?_ ?_
  rotate_left
  · intro w' hSw
    try dsimp only at hSw
    go_simp
    try with_reducible rfl
  try simp only [Act.put, List.setIfInBounds_toArray, List.set_cons_zero, List.set_cons_succ]
  refine takeP (i := 3) rfl (by kernel_rfl) (by kernel_rfl) (by kernel_rfl) (fun _ _ _ h => h) (by rfl) (by assumption) (v := ?_) ?_ ?_
  rotate_left
  · intro w' hSw
    try dsimp only at hSw
    go_simp
    try with_reducible rfl
  try simp only [Act.put, List.setIfInBounds_toArray, List.set_cons_zero, List.set_cons_succ]
  refine takeP (i := 4) rfl (by kernel_rfl) (by kernel_rfl) (by kernel_rfl) (fun _ _ _ h => h) (by rfl) (by assumption) (v := ?_) ?_ ?_
  rotate_left
  · intro w' hSw
    try dsimp only at hSw
    go_simp
    try with_reducible rfl
  try simp only [Act.put, List.setIfInBounds_toArray, List.set_cons_zero, List.set_cons_succ]
  refine takeP (i := 5) rfl (by kernel_rfl) (by kernel_rfl) (by kernel_rfl) (fun _ _ _ h => h) (by rfl) (by assumption) (v := ?_) ?_ ?_
  rotate_left
  · intro w' hSw
    try dsimp only at hSw
    go_simp
    try with_reducible rfl
  try simp only [Act.put, List.setIfInBounds_toArray, List.set_cons_zero, List.set_cons_succ]
  refine takeP (i := 6) rfl (by kernel_rfl) (by kernel_rfl) (by kernel_rfl) (fun _ _ _ h => h) (by rfl) (by assumption) (v := ?_) ?_ ?_
  rotate_left
  · intro w' hSw
    try dsimp only at hSw
    go_simp
    try with_reducible rfl
  try simp only [Act.put, List.setIfInBounds_toArray, List.set_cons_zero, List.set_cons_succ]
  refine takeP (i := 7) rfl (by kernel_rfl) (by kernel_rfl) (by kernel_rfl) (fun _ _ _ h => h) (by rfl) (by assumption) (v := ?_) ?_ ?_
  rotate_left
  · intro w' hSw
    try dsimp only at hSw
    go_simp
    try with_reducible rfl
  try simp only [Act.put, List.setIfInBounds_toArray, List.set_cons_zero, List.set_cons_succ]
  refine takeP (i := 8) rfl (by kernel_rfl) (by kernel_rfl) (by kernel_rfl) (fun _ _ _ h => h) (by rfl) (by assumption) (v := ?_) ?_ ?_
  rotate_left
  · intro w' hSw
    try dsimp only at hSw
    go_simp
    try with_reducible rfl
  try simp only [Act.put, List.setIfInBounds_toArray, List.set_cons_zero, List.set_cons_succ]
  refine takeP (i := 9) rfl (by kernel_rfl) (by kernel_rfl) (by kernel_rfl) (fun _ _ _ h => h) (by rfl) (by assumption) (v := ?_) ?_ ?_
  rotate_left
  · intro w' hSw
    try dsimp only at hSw
    go_simp
    try with_reducible rfl
  try simp only [Act.put, List.setIfInBounds_toArray, List.set_cons_zero, List.set_cons_succ]
  refine takeP (i := 10) rfl (by kernel_rfl) (by kernel_rfl) (by kernel_rfl) (fun _ _ _ h => h) (by rfl) (by assumption) (v := ?_) ?_ ?_
  rotate_left
  · intro w' hSw
    try dsimp only at hSw
    go_simp
    try with_reducible rfl
  try simp only [Act.put, List.setIfInBounds_toArray, List.set_cons_zero, List.set_cons_succ]
  refine takeP (i := 11) rfl (by kernel_rfl) (by kernel_rfl) (by kernel_rfl) (fun _ _ _ h => h) (by rfl) (by assumption) (v := ?_) ?_ ?_
  rotate_left
  · intro w' hSw
    try dsimp only at hSw
    go_simp
    try with_reducible rfl
  try simp only [Act.put, List.setIfInBounds_toArray, List.set_cons_zero, List.set_cons_succ]
  refine takeP (i := 12) rfl (by kernel_rfl) (by kernel_rfl) (by kernel_rfl) (fun _ _ _ h => h) (by rfl) (by assumption) (v := ?_) ?_ ?_
  rotate_left
  · intro w' hSw
    try dsimp only at hSw
    go_simp
    try with_reducible rfl
  try simp only [Act.put, List.setIfInBounds_toArray, List.set_cons_zero, List.set_cons_succ]
  refine takeP (i := 13) rfl (by kernel_rfl) (by kernel_rfl) (by kernel_rfl) (fun _ _ _ h => h) (by rfl) (by assumption) (v := ?_) ?_ ?_
  rotate_left
  · intro w' hSw
    try dsimp only at hSw
    go_simp
    try with_reducible rfl
  try simp only [Act.put, List.setIfInBounds_toArray, List.set_cons_zero, List.set_cons_succ]
  refine takeP (i := 14) rfl (by kernel_rfl) (by kernel_rfl) (by kernel_rfl) (fun _ _ _ h => h) (by rfl) (by assumption) (v := ?_) ?_ ?_
  rotate_left
  · intro w' hSw
    try dsimp only at hSw
    go_simp
    try with_reducible rfl
  try simp only [Act.put, List.setIfInBounds_toArray, List.set_cons_zero, List.set_cons_succ]
  refine takeP (i := 16) rfl (by kernel_rfl) (by kernel_rfl) (by kernel_rfl) (fun _ _ _ h => h) (by rfl) (by assumption) (v := ?_) ?_ ?_
  rotate_left
  · intro w' hSw
    try dsimp only at hSw
    go_simp
    try with_reducible rfl
  try simp only [Act.put, List.setIfInBounds_toArray, List.set_cons_zero, List.set_cons_succ]
  refine takeP (i := 17) rfl (by kernel_rfl) (by kernel_rfl) (by kernel_rfl) (fun _ _ _ h => h) (by rfl) (by assumption) (v := ?_) ?_ ?_
  rotate_left
  · intro w' hSw
    try dsimp only at hSw
    go_simp
    try with_reducible rfl
  try simp only [Act.put, List.setIfInBounds_toArray, List.set_cons_zero, List.set_cons_succ]
  refine takeP (i := 18) rfl (by kernel_rfl) (by kernel_rfl) (by kernel_rfl) (fun _ _ _ h => h) (by rfl) (by assumption) (v := ?_) ?_ ?_
  rotate_left
  · intro w' hSw
    try dsimp only at hSw
    go_simp
    try with_reducible rfl
  try simp only [Act.put, List.setIfInBounds_toArray, List.set_cons_zero, List.set_cons_succ]
  refine carryP (i := 15) rfl (by kernel_rfl) (by rfl) (fun K hK => ?_)
  go_simp
  refine (HNUM.out _).mono ?_
  rintro r wn ⟨rfl, hbn⟩
  have hcn := HC.below hbn hc0
  go_wp2_with fail
  refine hK.out _ _ ?_ (fun hHeld => ?_)
  · first | assumption | exact HC.alloc' (by assumption) _
  clear hK K
  try simp only [Act.put, List.setIfInBounds_toArray, List.set_cons_zero, List.set_cons_succ]
  refine takeP (i := 19) rfl (by kernel_rfl) (by kernel_rfl) (by kernel_rfl) (fun _ _ _ h => h) (by rfl) (by assumption) (v := ?_) ?_ ?_
  rotate_left
  · intro w' hSw
    try dsimp only at hSw
    go_simp
    try with_reducible rfl
  try simp only [Act.put, List.setIfInBounds_toArray, List.set_cons_zero, List.set_cons_succ]
  refine takeP (i := 20) rfl (by kernel_rfl) (by kernel_rfl) (by kernel_rfl) (fun _ _ _ h => h) (by rfl) (by assumption) (v := ?_) ?_ ?_
  rotate_left
  · intro w' hSw
    try dsimp only at hSw
    go_simp
    try with_reducible rfl
  try simp only [Act.put, List.setIfInBounds_toArray, List.set_cons_zero, List.set_cons_succ]
  refine takeP (i := 21) rfl (by kernel_rfl) (by kernel_rfl) (by kernel_rfl) (fun _ _ _ h => h) (by rfl) (by assumption) (v := ?_) ?_ ?_
  rotate_left
  · intro w' hSw
    try dsimp only at hSw
    go_simp
    try with_reducible rfl
  try simp only [Act.put, List.setIfInBounds_toArray, List.set_cons_zero, List.set_cons_succ]
  refine takeP (i := 22) rfl (by kernel_rfl) (by kernel_rfl) (by kernel_rfl) (fun _ _ _ h => h) (by rfl) (by assumption) (v := ?_) ?_ ?_
  rotate_left
  · intro w' hSw
    try dsimp only at hSw
    go_simp
    try with_reducible rfl
  try simp only [Act.put, List.setIfInBounds_toArray, List.set_cons_zero, List.set_cons_succ]
  refine takeP (i := 23) rfl (by kernel_rfl) (by kernel_rfl) (by kernel_rfl) (fun _ _ _ h => h) (by rfl) (by assumption) (v := ?_) ?_ ?_
  rotate_left
  · intro w' hSw
    try dsimp only at hSw
    go_simp
    try with_reducible rfl
  try simp only [Act.put, List.setIfInBounds_toArray, List.set_cons_zero, List.set_cons_succ]
  refine takeP (i := 24) rfl (by kernel_rfl) (by kernel_rfl) (by kernel_rfl) (fun _ _ _ h => h) (by rfl) (by assumption) (v := ?_) ?_ ?_
  rotate_left
  · intro w' hSw
    try dsimp only at hSw
    go_simp
    try with_reducible rfl
  try simp only [Act.put, List.setIfInBounds_toArray, List.set_cons_zero, List.set_cons_succ]
  refine takeP (i := 25) rfl (by kernel_rfl) (by kernel_rfl) (by kernel_rfl) (fun _ _ _ h => h) (by rfl) (by assumption) (v := ?_) ?_ ?_
  rotate_left
  · intro w' hSw
    try dsimp only at hSw
    go_simp
    try with_reducible rfl
  try simp only [Act.put, List.setIfInBounds_toArray, List.set_cons_zero, List.set_cons_succ]
  refine takeP (i := 26) rfl (by kernel_rfl) (by kernel_rfl) (by kernel_rfl) (fun _ _ _ h => h) (by rfl) (by assumption) (v := ?_) ?_ ?_
  rotate_left
  · intro w' hSw
    try dsimp only at hSw
    go_simp
    try with_reducible rfl
  try simp only [Act.put, List.setIfInBounds_toArray, List.set_cons_zero, List.set_cons_succ]
  refine carryP (i := 27) rfl (by kernel_rfl) (by rfl) (fun K hK => ?_)
  go_simp
  refine hK.out _ _ ?_ (fun hHeld => ?_)
  · first | assumption | exact HC.alloc' (by assumption) _
  clear hK K
  try simp only [Act.put, List.setIfInBounds_toArray, List.set_cons_zero, List.set_cons_succ]
  refine carryP (i := 28) rfl (by kernel_rfl) (by rfl) (fun K hK => ?_)
  go_simp
  refine hK.out _ _ ?_ (fun hHeld => ?_)
  · first | assumption | exact HC.alloc' (by assumption) _
  clear hK K
  try simp only [Act.put, List.setIfInBounds_toArray, List.set_cons_zero, List.set_cons_succ]
  refine takeP (i := 29) rfl (by kernel_rfl) (by kernel_rfl) (by kernel_rfl) (fun _ _ _ h => h) (by rfl) (by assumption) (v := ?_) ?_ ?_
  rotate_left
  · intro w' hSw
    try dsimp only at hSw
    go_simp
    try with_reducible rfl
  try simp only [Act.put, List.setIfInBounds_toArray, List.set_cons_zero, List.set_cons_succ]
  refine takeP (i := 30) rfl (by kernel_rfl) (by kernel_rfl) (by kernel_rfl) (fun _ _ _ h => h) (by rfl) (by assumption) (v := ?_) ?_ ?_
  rotate_left
  · intro w' hSw
    try dsimp only at hSw
    go_simp
    try with_reducible rfl
  try simp only [Act.put, List.setIfInBounds_toArray, List.set_cons_zero, List.set_cons_succ]
  refine wpAnyH_done (by kernel_rfl) ?_ _
  have hcn := hcn.alloc' (.cells (madeCells #[Value.int .u8 0] (s.size - 32)) 5)
  obtain ⟨⟨a0, a1, a2, a3⟩, f0, f1, f2, f3⟩ := cell4 hcn.1
  have hbz := below4 hcn.2 (Nat.le_refl _) (.int .u64 0) (.int .u32 0) (.int .u32 0) (.int .u32 0)
  obtain ⟨⟨t0, t1, t2, t3⟩, _⟩ := cell4 (set4 hcn.1 (.int .u64 0) (.int .u32 0) (.int .u32 0) (.int .u32 0))
  clear hcn hc0 HNUM hbn
  go_wp2
  exact bodyPost_ret (v := .tuple #[.agg #[.int .u64 0, .int .u32 0, .int .u32 0, .int .u32 0], .int .i64 11]) (by simp [results, Try.results19, go_sem, t0, t1, t2, t3]) rfl ⟨rfl, hbz⟩

set_option maxRecDepth 20000 in
set_option maxHeartbeats 1000000 in
theorem rget_sum (w : World) (s : ByteArray) (l : List UInt8) (hs : Hid (s = st l)) (hl1 : 512 ≤ s.size) (hl2 : s.size ≤ 4096) (hm : l.take 4 = [82, 85, 66, 49]) (hn : numAt l 4 4 = l.length) (hd : l.drop 32 = List.replicate (l.length - 32) 0) (hsum : ¬ numAt l 28 4 = crcOf (l.take 28)) :
    Calls Try.prog 19 #[.string s] w fun r w' => r = .returned (.tuple #[metaV none, .int .i64 14]) ∧ Below w.heap.size w w' := by
  have d1 : decide ((s.size : Int) < 512) = false := decide_eq_false (by omega)
  have d2 : decide (4096 < (s.size : Int)) = false := decide_eq_false (by omega)
  have b4 : (4 : Int) ≤ (s.size : Int) := by omega
  have e4 : (s.extract 0 4).toList = l.take 4 := by rw [hs.out, st_extract]; simp
  have d3 : ((s.extract 0 4).toList == [82, 85, 66, 49]) = true := by rw [e4]; simpa using hm
  have d3p : (s.extract 0 4).toList = [82, 85, 66, 49] := by rw [e4]; exact hm
  clear e4 hm
  have hb0 : Below w.heap.size w (w.alloc (.cells #[.int .u64 0, .int .u32 0, .int .u32 0, .int .u32 0] 30)) := (Below.refl _ _).alloc (Nat.le_refl _) _
  have hll : s.size = l.length := by rw [hs.out, st_size]
  have hnum := fun w : World => rnumat_i w l 4 4 (by omega) (by omega) (by omega) (by omega) (by omega)
  obtain ⟨X, hX⟩ : ∃ X, numAt l 4 4 = X := ⟨_, rfl⟩
  rw [show (4 : Int).toNat = 4 from rfl, hX, ← hs.out] at hnum
  rw [hX, ← hll] at hn
  have d4 : ((X : Int) != (s.size : Int)) = false := by rw [hn]; simp
  have d4b : ((X : Int) == (s.size : Int)) = true := by rw [hn]; simp
  have d4n : (X == s.size) = true := by rw [hn]; simp
  have HNUM := Lib.hid hnum
  have d4p := hn
  have HLL := Lib.hid hll
  have hr0 := heap_alloc_new w (.cells #[.int .u64 0, .int .u32 0, .int .u32 0, .int .u32 0] 30)
  have hc0 : HC w w.heap.size 30 (.int .u64 0) (.int .u32 0) (.int .u32 0) (.int .u32 0) (w.alloc (.cells #[.int .u64 0, .int .u32 0, .int .u32 0, .int .u32 0] 30)).drew := ⟨hr0, hb0.drew⟩
  have hlw : IntKind.u64.wrap (s.size : Int) = (s.size : Int) := IntWalk.u64_in _ (by omega)
  clear hX hn hnum hr0 hb0 hll
  obtain ⟨Z, hZ⟩ : ∃ Z, st (List.replicate (s.size - 32) 0) = Z := ⟨_, rfl⟩
  have b32 : (32 : Int) ≤ (s.size : Int) := by omega
  have b32' : (0 : Int) ≤ (s.size : Int) - 32 := by omega
  have e32 : (s.extract 32 s.size).toList = l.drop 32 := by rw [hs.out, st_extract, st_size, List.take_of_length_le (Nat.le_refl _)]; simp
  have eZ : Z.toList = List.replicate (s.size - 32) 0 := by rw [← hZ]; simp
  have hll2 : s.size = l.length := HLL.out
  have d5 : ((s.extract 32 s.size).toList == Z.toList) = true := by rw [e32, eZ, hll2]; simpa using hd
  have d5p : (s.extract 32 s.size).toList = Z.toList := by rw [e32, eZ, hll2]; exact hd
  obtain ⟨ii, hi0, hz0, hz1, hz2⟩ := info_parts info_u8
  have hsub : IntKind.i64.wrap ((s.size : Int) - 32) = (s.size : Int) - 32 := IntWalk.i64_in _ (by omega)
  have hmk := fun W : World => run_make (P := Try.prog) W 33 5 ii _ Try.underlying33 hi0 hz0 .i64 .i64 ((s.size : Int) - 32) ((s.size : Int) - 32) (by omega) (Int.le_refl _) (by rw [hz2]; omega) (by omega)
  have htn : ((s.size : Int) - 32).toNat = s.size - 32 := by omega
  rw [hz1, htn] at hmk
  have hcv : ∀ W : World, (convert 33 9 (.slice (some ⟨W.heap.size, 0, none⟩) (s.size - 32) (s.size - 32))).run Try.prog (W.alloc (.cells (madeCells #[Value.int .u8 0] (s.size - 32)) 5)) = .ok (.string Z) (W.alloc (.cells (madeCells #[Value.int .u8 0] (s.size - 32)) 5)) := by
    intro W
    rw [← hZ]
    have hrow : RowB (W.alloc (.cells (madeCells #[Value.int .u8 0] (s.size - 32)) 5)) W.heap.size (List.replicate (s.size - 32) 0) := by have h0 := RowB.made W (s.size - 32); rw [Nat.mul_one] at h0; exact h0
    exact string_of_sl (P := Try.prog) Try.underlying33 Try.underlying5 Try.underlying9 (hrow.slN (n := s.size - 32) (by simp) (by omega))
  clear hd e32 eZ hZ hi0 hz0 hz1 hz2 htn hll2
  have b28 : (28 : Int) ≤ (s.size : Int) := by omega
  have e28 : Hid (s.extract 0 28 = st (l.take 28)) := Lib.hid (by rw [hs.out, st_extract, List.drop_zero])
  have hsumc := fun w : World => refcrc_s w (s.extract 0 28) (l.take 28) e28 (by have := HLL.out; rw [List.length_take]; omega)
  have hcl := crcOf_lt (l.take 28)
  obtain ⟨CC, hCC⟩ : ∃ CC, crcOf (l.take 28) = CC := ⟨_, rfl⟩
  rw [hCC] at hcl hsumc
  have HCR := Lib.hid hsumc
  have hcw : IntKind.u64.wrap (CC : Int) = (CC : Int) := IntWalk.u64_in _ (by omega)
  have hn28 := fun w : World => rnumat_i w l 28 4 (by omega) (by omega) (by omega) (by have := HLL.out; omega) (by have := HLL.out; omega)
  obtain ⟨NN, hNN⟩ : ∃ NN, numAt l 28 4 = NN := ⟨_, rfl⟩
  rw [show (28 : Int).toNat = 28 from rfl, show (4 : Int).toNat = 4 from rfl, hNN, ← hs.out] at hn28
  have HN28 := Lib.hid hn28
  rw [hCC, hNN] at hsum
  clear hCC hNN hsumc hn28
  have d6 : ((NN : Int) != (CC : Int)) = true := by rw [bne_iff_ne]; omega
  have d6b : ((NN : Int) == (CC : Int)) = false := by rw [beq_eq_false_iff_ne]; omega
  have d6n : (NN == CC) = false := by rw [beq_eq_false_iff_ne]; omega
  clear hsum
  go_enter Try.func19, Try.ntmps19
  go_wp2
  refine wp_region_held_drew (S := (fun w' => HC w w.heap.size 30 (.int .u64 0) (.int .u32 0) (.int .u32 0) (.int .u32 0) w')) (by kernel_rfl) ?_ (fun hHeld => ?_)
  · first | assumption | exact HC.alloc' (by assumption) _
  refine takeP (i := 0) rfl (by kernel_rfl) (by kernel_rfl) (by kernel_rfl) (fun _ _ _ h => h) (by rfl) (by assumption) (v := ?_) ?_ ?_
  rotate_left
  · intro w' hSw
    try dsimp only at hSw
    go_simp
    try with_reducible rfl
  try simp only [Act.put, List.setIfInBounds_toArray, List.set_cons_zero, List.set_cons_succ]
  refine takeP (i := 1) rfl (by kernel_rfl) (by kernel_rfl) (by kernel_rfl) (fun _ _ _ h => h) (by rfl) (by assumption) (v := ?_) ?_ ?_
  rotate_left
  · intro w' hSw
    try dsimp only at hSw
    go_simp
    try with_reducible rfl
  try simp only [Act.put, List.setIfInBounds_toArray, List.set_cons_zero, List.set_cons_succ]
  refine takeP (i := 2) rfl (by kernel_rfl) (by kernel_rfl) (by kernel_rfl) (fun _ _ _ h => h) (by rfl) (by assumption) (v := ?_) ?_ ?_
  rotate_left
  · intro w' hSw
    try dsimp only at hSw
    go_simp
    try with_reducible rfl
  try simp only [Act.put, List.setIfInBounds_toArray, List.set_cons_zero, List.set_cons_succ]
  refine takeP (i := 3) rfl (by kernel_rfl) (by kernel_rfl) (by kernel_rfl) (fun _ _ _ h => h) (by rfl) (by assumption) (v := ?_) ?_ ?_
  rotate_left
  · intro w' hSw
    try dsimp only at hSw
    go_simp
    try with_reducible rfl
  try simp only [Act.put, List.setIfInBounds_toArray, List.set_cons_zero, List.set_cons_succ]
  refine takeP (i := 4) rfl (by kernel_rfl) (by kernel_rfl) (by kernel_rfl) (fun _ _ _ h => h) (by rfl) (by assumption) (v := ?_) ?_ ?_
  rotate_left
  · intro w' hSw
    try dsimp only at hSw
    go_simp
    try with_reducible rfl
  try simp only [Act.put, List.setIfInBounds_toArray, List.set_cons_zero, List.set_cons_succ]
  refine takeP (i := 5) rfl (by kernel_rfl) (by kernel_rfl) (by kernel_rfl) (fun _ _ _ h => h) (by rfl) (by assumption) (v := ?_) ?_ ?_
  rotate_left
  · intro w' hSw
    try dsimp only at hSw
    go_simp
    try with_reducible rfl
  try simp only [Act.put, List.setIfInBounds_toArray, List.set_cons_zero, List.set_cons_succ]
  refine takeP (i := 6) rfl (by kernel_rfl) (by kernel_rfl) (by kernel_rfl) (fun _ _ _ h => h) (by rfl) (by assumption) (v := ?_) ?_ ?_
  rotate_left
  · intro w' hSw
    try dsimp only at hSw
    go_simp
    try with_reducible rfl
  try simp only [Act.put, List.setIfInBounds_toArray, List.set_cons_zero, List.set_cons_succ]
  refine takeP (i := 7) rfl (by kernel_rfl) (by kernel_rfl) (by kernel_rfl) (fun _ _ _ h => h) (by rfl) (by assumption) (v := ?_) ?_ ?_
  rotate_left
  · intro w' hSw
    try dsimp only at hSw
    go_simp
    try with_reducible rfl
  try simp only [Act.put, List.setIfInBounds_toArray, List.set_cons_zero, List.set_cons_succ]
  refine takeP (i := 8) rfl (by kernel_rfl) (by kernel_rfl) (by kernel_rfl) (fun _ _ _ h => h) (by rfl) (by assumption) (v := ?_) ?_ ?_
  rotate_left
  · intro w' hSw
    try dsimp only at hSw
    go_simp
    try with_reducible rfl
  try simp only [Act.put, List.setIfInBounds_toArray, List.set_cons_zero, List.set_cons_succ]
  refine takeP (i := 9) rfl (by kernel_rfl) (by kernel_rfl) (by kernel_rfl) (fun _ _ _ h => h) (by rfl) (by assumption) (v := ?_) ?_ ?_
  rotate_left
  · intro w' hSw
    try dsimp only at hSw
    go_simp
    try with_reducible rfl
  try simp only [Act.put, List.setIfInBounds_toArray, List.set_cons_zero, List.set_cons_succ]
  refine takeP (i := 10) rfl (by kernel_rfl) (by kernel_rfl) (by kernel_rfl) (fun _ _ _ h => h) (by rfl) (by assumption) (v := ?_) ?_ ?_
  rotate_left
  · intro w' hSw
    try dsimp only at hSw
    go_simp
    try with_reducible rfl
  try simp only [Act.put, List.setIfInBounds_toArray, List.set_cons_zero, List.set_cons_succ]
  refine takeP (i := 11) rfl (by kernel_rfl) (by kernel_rfl) (by kernel_rfl) (fun _ _ _ h => h) (by rfl) (by assumption) (v := ?_) ?_ ?_
  rotate_left
  · intro w' hSw
    try dsimp only at hSw
    go_simp
    try with_reducible rfl
  try simp only [Act.put, List.setIfInBounds_toArray, List.set_cons_zero, List.set_cons_succ]
  refine takeP (i := 12) rfl (by kernel_rfl) (by kernel_rfl) (by kernel_rfl) (fun _ _ _ h => h) (by rfl) (by assumption) (v := ?_) ?_ ?_
  rotate_left
  · intro w' hSw
    try dsimp only at hSw
    go_simp
    try with_reducible rfl
  try simp only [Act.put, List.setIfInBounds_toArray, List.set_cons_zero, List.set_cons_succ]
  refine takeP (i := 13) rfl (by kernel_rfl) (by kernel_rfl) (by kernel_rfl) (fun _ _ _ h => h) (by rfl) (by assumption) (v := ?_) ?_ ?_
  rotate_left
  · intro w' hSw
    try dsimp only at hSw
    go_simp
    try with_reducible rfl
  try simp only [Act.put, List.setIfInBounds_toArray, List.set_cons_zero, List.set_cons_succ]
  refine takeP (i := 14) rfl (by kernel_rfl) (by kernel_rfl) (by kernel_rfl) (fun _ _ _ h => h) (by rfl) (by assumption) (v := ?_) ?_ ?_
  rotate_left
  · intro w' hSw
    try dsimp only at hSw
    go_simp
    try with_reducible rfl
  try simp only [Act.put, List.setIfInBounds_toArray, List.set_cons_zero, List.set_cons_succ]
  refine takeP (i := 16) rfl (by kernel_rfl) (by kernel_rfl) (by kernel_rfl) (fun _ _ _ h => h) (by rfl) (by assumption) (v := ?_) ?_ ?_
  rotate_left
  · intro w' hSw
    try dsimp only at hSw
    go_simp
    try with_reducible rfl
  try simp only [Act.put, List.setIfInBounds_toArray, List.set_cons_zero, List.set_cons_succ]
  refine takeP (i := 17) rfl (by kernel_rfl) (by kernel_rfl) (by kernel_rfl) (fun _ _ _ h => h) (by rfl) (by assumption) (v := ?_) ?_ ?_
  rotate_left
  · intro w' hSw
    try dsimp only at hSw
    go_simp
    try with_reducible rfl
  try simp only [Act.put, List.setIfInBounds_toArray, List.set_cons_zero, List.set_cons_succ]
  refine takeP (i := 18) rfl (by kernel_rfl) (by kernel_rfl) (by kernel_rfl) (fun _ _ _ h => h) (by rfl) (by assumption) (v := ?_) ?_ ?_
  rotate_left
  · intro w' hSw
    try dsimp only at hSw
    go_simp
    try with_reducible rfl
  try simp only [Act.put, List.setIfInBounds_toArray, List.set_cons_zero, List.set_cons_succ]
  refine carryP (i := 15) rfl (by kernel_rfl) (by rfl) (fun K hK => ?_)
  go_simp
  refine (HNUM.out _).mono ?_
  rintro r wn ⟨rfl, hbn⟩
  have hcn := HC.below hbn hc0
  go_wp2_with fail
  refine hK.out _ _ ?_ (fun hHeld => ?_)
  · first | assumption | exact HC.alloc' (by assumption) _
  clear hK K
  try simp only [Act.put, List.setIfInBounds_toArray, List.set_cons_zero, List.set_cons_succ]
  refine takeP (i := 19) rfl (by kernel_rfl) (by kernel_rfl) (by kernel_rfl) (fun _ _ _ h => h) (by rfl) (by assumption) (v := ?_) ?_ ?_
  rotate_left
  · intro w' hSw
    try dsimp only at hSw
    go_simp
    try with_reducible rfl
  try simp only [Act.put, List.setIfInBounds_toArray, List.set_cons_zero, List.set_cons_succ]
  refine takeP (i := 20) rfl (by kernel_rfl) (by kernel_rfl) (by kernel_rfl) (fun _ _ _ h => h) (by rfl) (by assumption) (v := ?_) ?_ ?_
  rotate_left
  · intro w' hSw
    try dsimp only at hSw
    go_simp
    try with_reducible rfl
  try simp only [Act.put, List.setIfInBounds_toArray, List.set_cons_zero, List.set_cons_succ]
  refine takeP (i := 21) rfl (by kernel_rfl) (by kernel_rfl) (by kernel_rfl) (fun _ _ _ h => h) (by rfl) (by assumption) (v := ?_) ?_ ?_
  rotate_left
  · intro w' hSw
    try dsimp only at hSw
    go_simp
    try with_reducible rfl
  try simp only [Act.put, List.setIfInBounds_toArray, List.set_cons_zero, List.set_cons_succ]
  refine takeP (i := 22) rfl (by kernel_rfl) (by kernel_rfl) (by kernel_rfl) (fun _ _ _ h => h) (by rfl) (by assumption) (v := ?_) ?_ ?_
  rotate_left
  · intro w' hSw
    try dsimp only at hSw
    go_simp
    try with_reducible rfl
  try simp only [Act.put, List.setIfInBounds_toArray, List.set_cons_zero, List.set_cons_succ]
  refine takeP (i := 23) rfl (by kernel_rfl) (by kernel_rfl) (by kernel_rfl) (fun _ _ _ h => h) (by rfl) (by assumption) (v := ?_) ?_ ?_
  rotate_left
  · intro w' hSw
    try dsimp only at hSw
    go_simp
    try with_reducible rfl
  try simp only [Act.put, List.setIfInBounds_toArray, List.set_cons_zero, List.set_cons_succ]
  refine takeP (i := 24) rfl (by kernel_rfl) (by kernel_rfl) (by kernel_rfl) (fun _ _ _ h => h) (by rfl) (by assumption) (v := ?_) ?_ ?_
  rotate_left
  · intro w' hSw
    try dsimp only at hSw
    go_simp
    try with_reducible rfl
  try simp only [Act.put, List.setIfInBounds_toArray, List.set_cons_zero, List.set_cons_succ]
  refine takeP (i := 25) rfl (by kernel_rfl) (by kernel_rfl) (by kernel_rfl) (fun _ _ _ h => h) (by rfl) (by assumption) (v := ?_) ?_ ?_
  rotate_left
  · intro w' hSw
    try dsimp only at hSw
    go_simp
    try with_reducible rfl
  try simp only [Act.put, List.setIfInBounds_toArray, List.set_cons_zero, List.set_cons_succ]
  refine takeP (i := 26) rfl (by kernel_rfl) (by kernel_rfl) (by kernel_rfl) (fun _ _ _ h => h) (by rfl) (by assumption) (v := ?_) ?_ ?_
  rotate_left
  · intro w' hSw
    try dsimp only at hSw
    go_simp
    try with_reducible rfl
  try simp only [Act.put, List.setIfInBounds_toArray, List.set_cons_zero, List.set_cons_succ]
  refine carryP (i := 27) rfl (by kernel_rfl) (by rfl) (fun K hK => ?_)
  go_simp
  refine hK.out _ _ ?_ (fun hHeld => ?_)
  · first | assumption | exact HC.alloc' (by assumption) _
  clear hK K
  try simp only [Act.put, List.setIfInBounds_toArray, List.set_cons_zero, List.set_cons_succ]
  refine carryP (i := 28) rfl (by kernel_rfl) (by rfl) (fun K hK => ?_)
  go_simp
  refine hK.out _ _ ?_ (fun hHeld => ?_)
  · first | assumption | exact HC.alloc' (by assumption) _
  clear hK K
  try simp only [Act.put, List.setIfInBounds_toArray, List.set_cons_zero, List.set_cons_succ]
  refine takeP (i := 29) rfl (by kernel_rfl) (by kernel_rfl) (by kernel_rfl) (fun _ _ _ h => h) (by rfl) (by assumption) (v := ?_) ?_ ?_
  rotate_left
  · intro w' hSw
    try dsimp only at hSw
    go_simp
    try with_reducible rfl
  try simp only [Act.put, List.setIfInBounds_toArray, List.set_cons_zero, List.set_cons_succ]
  refine takeP (i := 30) rfl (by kernel_rfl) (by kernel_rfl) (by kernel_rfl) (fun _ _ _ h => h) (by rfl) (by assumption) (v := ?_) ?_ ?_
  rotate_left
  · intro w' hSw
    try dsimp only at hSw
    go_simp
    try with_reducible rfl
  try simp only [Act.put, List.setIfInBounds_toArray, List.set_cons_zero, List.set_cons_succ]
  refine wpAnyH_done (by kernel_rfl) ?_ _
  have hcm := hcn.alloc' (.cells (madeCells #[Value.int .u8 0] (s.size - 32)) 5)
  have hcd := hcm.drew
  clear hcn hc0 hHeld hmk hcv HNUM d5 d5p d4 d4b d4n d4p d3 d3p hbn b32 b32' hsub b4
  generalize wn.alloc (.cells (madeCells #[Value.int .u8 0] (s.size - 32)) 5) = wm at *
  go_wp2_with fail
  go_region_held3 (fun w' => HC w w.heap.size 30 (.int .u64 0) (.int .u32 0) (.int .u32 0) (.int .u32 0) w') (assumption) (first | (go_at_call 35; refine (HN28.out _).mono ?_; rintro r wq ⟨rfl, hbq⟩; have hcq := HC.below hbq hcd) | (go_at_call 29; refine (HCR.out _).mono ?_; rintro r wz ⟨rfl, rfl⟩))
  obtain ⟨⟨a0, a1, a2, a3⟩, f0, f1, f2, f3⟩ := cell4 hcq.1
  have hbz := below4 hcq.2 (Nat.le_refl _) (.int .u64 0) (.int .u32 0) (.int .u32 0) (.int .u32 0)
  obtain ⟨⟨t0, t1, t2, t3⟩, _⟩ := cell4 (set4 hcq.1 (.int .u64 0) (.int .u32 0) (.int .u32 0) (.int .u32 0))
  clear hcq 
  go_wp2
  exact bodyPost_ret (v := .tuple #[.agg #[.int .u64 0, .int .u32 0, .int .u32 0, .int .u32 0], .int .i64 14]) (by simp [results, Try.results19, go_sem, t0, t1, t2, t3]) rfl ⟨rfl, hbz⟩

set_option maxRecDepth 20000 in
set_option maxHeartbeats 1000000 in
theorem rget_wrong (w : World) (s : ByteArray) (l : List UInt8) (hs : Hid (s = st l)) (hl1 : 512 ≤ s.size) (hl2 : s.size ≤ 4096) (hm : l.take 4 = [82, 85, 66, 49]) (hn : numAt l 4 4 = l.length) (hd : l.drop 32 = List.replicate (l.length - 32) 0) (hsum : numAt l 28 4 = crcOf (l.take 28)) (hR : ¬ MRight (numAt l 8 8) (numAt l 16 4) (numAt l 20 4) (numAt l 24 4)) :
    Calls Try.prog 19 #[.string s] w fun r w' => r = .returned (.tuple #[metaV none, .int .i64 11]) ∧ Below w.heap.size w w' := by
  have d1 : decide ((s.size : Int) < 512) = false := decide_eq_false (by omega)
  have d2 : decide (4096 < (s.size : Int)) = false := decide_eq_false (by omega)
  have b4 : (4 : Int) ≤ (s.size : Int) := by omega
  have e4 : (s.extract 0 4).toList = l.take 4 := by rw [hs.out, st_extract]; simp
  have d3 : ((s.extract 0 4).toList == [82, 85, 66, 49]) = true := by rw [e4]; simpa using hm
  have d3p : (s.extract 0 4).toList = [82, 85, 66, 49] := by rw [e4]; exact hm
  clear e4 hm
  have hb0 : Below w.heap.size w (w.alloc (.cells #[.int .u64 0, .int .u32 0, .int .u32 0, .int .u32 0] 30)) := (Below.refl _ _).alloc (Nat.le_refl _) _
  have hll : s.size = l.length := by rw [hs.out, st_size]
  have hnum := fun w : World => rnumat_i w l 4 4 (by omega) (by omega) (by omega) (by omega) (by omega)
  obtain ⟨X, hX⟩ : ∃ X, numAt l 4 4 = X := ⟨_, rfl⟩
  rw [show (4 : Int).toNat = 4 from rfl, hX, ← hs.out] at hnum
  rw [hX, ← hll] at hn
  have d4 : ((X : Int) != (s.size : Int)) = false := by rw [hn]; simp
  have d4b : ((X : Int) == (s.size : Int)) = true := by rw [hn]; simp
  have d4n : (X == s.size) = true := by rw [hn]; simp
  have HNUM := Lib.hid hnum
  have d4p := hn
  have HLL := Lib.hid hll
  have hr0 := heap_alloc_new w (.cells #[.int .u64 0, .int .u32 0, .int .u32 0, .int .u32 0] 30)
  have hc0 : HC w w.heap.size 30 (.int .u64 0) (.int .u32 0) (.int .u32 0) (.int .u32 0) (w.alloc (.cells #[.int .u64 0, .int .u32 0, .int .u32 0, .int .u32 0] 30)).drew := ⟨hr0, hb0.drew⟩
  have hlw : IntKind.u64.wrap (s.size : Int) = (s.size : Int) := IntWalk.u64_in _ (by omega)
  clear hX hn hnum hr0 hb0 hll
  obtain ⟨Z, hZ⟩ : ∃ Z, st (List.replicate (s.size - 32) 0) = Z := ⟨_, rfl⟩
  have b32 : (32 : Int) ≤ (s.size : Int) := by omega
  have b32' : (0 : Int) ≤ (s.size : Int) - 32 := by omega
  have e32 : (s.extract 32 s.size).toList = l.drop 32 := by rw [hs.out, st_extract, st_size, List.take_of_length_le (Nat.le_refl _)]; simp
  have eZ : Z.toList = List.replicate (s.size - 32) 0 := by rw [← hZ]; simp
  have hll2 : s.size = l.length := HLL.out
  have d5 : ((s.extract 32 s.size).toList == Z.toList) = true := by rw [e32, eZ, hll2]; simpa using hd
  have d5p : (s.extract 32 s.size).toList = Z.toList := by rw [e32, eZ, hll2]; exact hd
  obtain ⟨ii, hi0, hz0, hz1, hz2⟩ := info_parts info_u8
  have hsub : IntKind.i64.wrap ((s.size : Int) - 32) = (s.size : Int) - 32 := IntWalk.i64_in _ (by omega)
  have hmk := fun W : World => run_make (P := Try.prog) W 33 5 ii _ Try.underlying33 hi0 hz0 .i64 .i64 ((s.size : Int) - 32) ((s.size : Int) - 32) (by omega) (Int.le_refl _) (by rw [hz2]; omega) (by omega)
  have htn : ((s.size : Int) - 32).toNat = s.size - 32 := by omega
  rw [hz1, htn] at hmk
  have hcv : ∀ W : World, (convert 33 9 (.slice (some ⟨W.heap.size, 0, none⟩) (s.size - 32) (s.size - 32))).run Try.prog (W.alloc (.cells (madeCells #[Value.int .u8 0] (s.size - 32)) 5)) = .ok (.string Z) (W.alloc (.cells (madeCells #[Value.int .u8 0] (s.size - 32)) 5)) := by
    intro W
    rw [← hZ]
    have hrow : RowB (W.alloc (.cells (madeCells #[Value.int .u8 0] (s.size - 32)) 5)) W.heap.size (List.replicate (s.size - 32) 0) := by have h0 := RowB.made W (s.size - 32); rw [Nat.mul_one] at h0; exact h0
    exact string_of_sl (P := Try.prog) Try.underlying33 Try.underlying5 Try.underlying9 (hrow.slN (n := s.size - 32) (by simp) (by omega))
  clear hd e32 eZ hZ hi0 hz0 hz1 hz2 htn hll2
  have b28 : (28 : Int) ≤ (s.size : Int) := by omega
  have e28 : Hid (s.extract 0 28 = st (l.take 28)) := Lib.hid (by rw [hs.out, st_extract, List.drop_zero])
  have hsumc := fun w : World => refcrc_s w (s.extract 0 28) (l.take 28) e28 (by have := HLL.out; rw [List.length_take]; omega)
  have hcl := crcOf_lt (l.take 28)
  obtain ⟨CC, hCC⟩ : ∃ CC, crcOf (l.take 28) = CC := ⟨_, rfl⟩
  rw [hCC] at hcl hsumc
  have HCR := Lib.hid hsumc
  have hcw : IntKind.u64.wrap (CC : Int) = (CC : Int) := IntWalk.u64_in _ (by omega)
  have hn28 := fun w : World => rnumat_i w l 28 4 (by omega) (by omega) (by omega) (by have := HLL.out; omega) (by have := HLL.out; omega)
  obtain ⟨NN, hNN⟩ : ∃ NN, numAt l 28 4 = NN := ⟨_, rfl⟩
  rw [show (28 : Int).toNat = 28 from rfl, show (4 : Int).toNat = 4 from rfl, hNN, ← hs.out] at hn28
  have HN28 := Lib.hid hn28
  rw [hCC, hNN] at hsum
  clear hCC hNN hsumc hn28
  have d6 : ((NN : Int) != (CC : Int)) = false := by rw [hsum]; simp
  have d6b : ((NN : Int) == (CC : Int)) = true := by rw [hsum]; simp
  have d6n : (NN == CC) = true := by rw [hsum]; simp
  clear hsum
  have hfT := fun w : World => rnumat_i w l 8 8 (by omega) (by omega) (by omega) (by have := HLL.out; omega) (by have := HLL.out; omega)
  have hltT := numAt_lt l 8 8
  obtain ⟨t, ht⟩ : ∃ t, numAt l 8 8 = t := ⟨_, rfl⟩
  simp only [Int.reduceToNat] at hfT
  rw [ht, ← hs.out] at hfT
  rw [ht] at hR hltT
  have HFT := Lib.hid hfT
  have HVT := Lib.hid ht
  clear hfT ht
  have hfE := fun w : World => rnumat_i w l 16 4 (by omega) (by omega) (by omega) (by have := HLL.out; omega) (by have := HLL.out; omega)
  have hltE := numAt_lt l 16 4
  obtain ⟨e, he⟩ : ∃ e, numAt l 16 4 = e := ⟨_, rfl⟩
  simp only [Int.reduceToNat] at hfE
  rw [he, ← hs.out] at hfE
  rw [he] at hR hltE
  have HFE := Lib.hid hfE
  have HVE := Lib.hid he
  clear hfE he
  have hfM := fun w : World => rnumat_i w l 20 4 (by omega) (by omega) (by omega) (by have := HLL.out; omega) (by have := HLL.out; omega)
  have hltM := numAt_lt l 20 4
  obtain ⟨m, hm⟩ : ∃ m, numAt l 20 4 = m := ⟨_, rfl⟩
  simp only [Int.reduceToNat] at hfM
  rw [hm, ← hs.out] at hfM
  rw [hm] at hR hltM
  have HFM := Lib.hid hfM
  have HVM := Lib.hid hm
  clear hfM hm
  have hfF := fun w : World => rnumat_i w l 24 4 (by omega) (by omega) (by omega) (by have := HLL.out; omega) (by have := HLL.out; omega)
  have hltF := numAt_lt l 24 4
  obtain ⟨f, hf⟩ : ∃ f, numAt l 24 4 = f := ⟨_, rfl⟩
  simp only [Int.reduceToNat] at hfF
  rw [hf, ← hs.out] at hfF
  rw [hf] at hR hltF
  have HFF := Lib.hid hfF
  have HVF := Lib.hid hf
  clear hfF hf
  have bt : t < 18446744073709551616 := by simpa using hltT
  have be' : e < 4294967296 := by simpa using hltE
  have bm : m < 4294967296 := by simpa using hltM
  have bf : f < 4294967296 := by simpa using hltF
  have we : IntKind.u32.wrap (e : Int) = (e : Int) := IntWalk.u32_in _ (by omega)
  have wm' : IntKind.u32.wrap (m : Int) = (m : Int) := IntWalk.u32_in _ (by omega)
  have wf : IntKind.u32.wrap (f : Int) = (f : Int) := IntWalk.u32_in _ (by omega)
  clear hltT hltE hltM hltF
  go_enter Try.func19, Try.ntmps19
  go_wp2
  refine wp_region_held_drew (S := (fun w' => HC w w.heap.size 30 (.int .u64 0) (.int .u32 0) (.int .u32 0) (.int .u32 0) w')) (by kernel_rfl) ?_ (fun hHeld => ?_)
  · first | assumption | exact HC.alloc' (by assumption) _
  refine takeP (i := 0) rfl (by kernel_rfl) (by kernel_rfl) (by kernel_rfl) (fun _ _ _ h => h) (by rfl) (by assumption) (v := ?_) ?_ ?_
  rotate_left
  · intro w' hSw
    try dsimp only at hSw
    go_simp
    try with_reducible rfl
  try simp only [Act.put, List.setIfInBounds_toArray, List.set_cons_zero, List.set_cons_succ]
  refine takeP (i := 1) rfl (by kernel_rfl) (by kernel_rfl) (by kernel_rfl) (fun _ _ _ h => h) (by rfl) (by assumption) (v := ?_) ?_ ?_
  rotate_left
  · intro w' hSw
    try dsimp only at hSw
    go_simp
    try with_reducible rfl
  try simp only [Act.put, List.setIfInBounds_toArray, List.set_cons_zero, List.set_cons_succ]
  refine takeP (i := 2) rfl (by kernel_rfl) (by kernel_rfl) (by kernel_rfl) (fun _ _ _ h => h) (by rfl) (by assumption) (v := ?_) ?_ ?_
  rotate_left
  · intro w' hSw
    try dsimp only at hSw
    go_simp
    try with_reducible rfl
  try simp only [Act.put, List.setIfInBounds_toArray, List.set_cons_zero, List.set_cons_succ]
  refine takeP (i := 3) rfl (by kernel_rfl) (by kernel_rfl) (by kernel_rfl) (fun _ _ _ h => h) (by rfl) (by assumption) (v := ?_) ?_ ?_
  rotate_left
  · intro w' hSw
    try dsimp only at hSw
    go_simp
    try with_reducible rfl
  try simp only [Act.put, List.setIfInBounds_toArray, List.set_cons_zero, List.set_cons_succ]
  refine takeP (i := 4) rfl (by kernel_rfl) (by kernel_rfl) (by kernel_rfl) (fun _ _ _ h => h) (by rfl) (by assumption) (v := ?_) ?_ ?_
  rotate_left
  · intro w' hSw
    try dsimp only at hSw
    go_simp
    try with_reducible rfl
  try simp only [Act.put, List.setIfInBounds_toArray, List.set_cons_zero, List.set_cons_succ]
  refine takeP (i := 5) rfl (by kernel_rfl) (by kernel_rfl) (by kernel_rfl) (fun _ _ _ h => h) (by rfl) (by assumption) (v := ?_) ?_ ?_
  rotate_left
  · intro w' hSw
    try dsimp only at hSw
    go_simp
    try with_reducible rfl
  try simp only [Act.put, List.setIfInBounds_toArray, List.set_cons_zero, List.set_cons_succ]
  refine takeP (i := 6) rfl (by kernel_rfl) (by kernel_rfl) (by kernel_rfl) (fun _ _ _ h => h) (by rfl) (by assumption) (v := ?_) ?_ ?_
  rotate_left
  · intro w' hSw
    try dsimp only at hSw
    go_simp
    try with_reducible rfl
  try simp only [Act.put, List.setIfInBounds_toArray, List.set_cons_zero, List.set_cons_succ]
  refine takeP (i := 7) rfl (by kernel_rfl) (by kernel_rfl) (by kernel_rfl) (fun _ _ _ h => h) (by rfl) (by assumption) (v := ?_) ?_ ?_
  rotate_left
  · intro w' hSw
    try dsimp only at hSw
    go_simp
    try with_reducible rfl
  try simp only [Act.put, List.setIfInBounds_toArray, List.set_cons_zero, List.set_cons_succ]
  refine takeP (i := 8) rfl (by kernel_rfl) (by kernel_rfl) (by kernel_rfl) (fun _ _ _ h => h) (by rfl) (by assumption) (v := ?_) ?_ ?_
  rotate_left
  · intro w' hSw
    try dsimp only at hSw
    go_simp
    try with_reducible rfl
  try simp only [Act.put, List.setIfInBounds_toArray, List.set_cons_zero, List.set_cons_succ]
  refine takeP (i := 9) rfl (by kernel_rfl) (by kernel_rfl) (by kernel_rfl) (fun _ _ _ h => h) (by rfl) (by assumption) (v := ?_) ?_ ?_
  rotate_left
  · intro w' hSw
    try dsimp only at hSw
    go_simp
    try with_reducible rfl
  try simp only [Act.put, List.setIfInBounds_toArray, List.set_cons_zero, List.set_cons_succ]
  refine takeP (i := 10) rfl (by kernel_rfl) (by kernel_rfl) (by kernel_rfl) (fun _ _ _ h => h) (by rfl) (by assumption) (v := ?_) ?_ ?_
  rotate_left
  · intro w' hSw
    try dsimp only at hSw
    go_simp
    try with_reducible rfl
  try simp only [Act.put, List.setIfInBounds_toArray, List.set_cons_zero, List.set_cons_succ]
  refine takeP (i := 11) rfl (by kernel_rfl) (by kernel_rfl) (by kernel_rfl) (fun _ _ _ h => h) (by rfl) (by assumption) (v := ?_) ?_ ?_
  rotate_left
  · intro w' hSw
    try dsimp only at hSw
    go_simp
    try with_reducible rfl
  try simp only [Act.put, List.setIfInBounds_toArray, List.set_cons_zero, List.set_cons_succ]
  refine takeP (i := 12) rfl (by kernel_rfl) (by kernel_rfl) (by kernel_rfl) (fun _ _ _ h => h) (by rfl) (by assumption) (v := ?_) ?_ ?_
  rotate_left
  · intro w' hSw
    try dsimp only at hSw
    go_simp
    try with_reducible rfl
  try simp only [Act.put, List.setIfInBounds_toArray, List.set_cons_zero, List.set_cons_succ]
  refine takeP (i := 13) rfl (by kernel_rfl) (by kernel_rfl) (by kernel_rfl) (fun _ _ _ h => h) (by rfl) (by assumption) (v := ?_) ?_ ?_
  rotate_left
  · intro w' hSw
    try dsimp only at hSw
    go_simp
    try with_reducible rfl
  try simp only [Act.put, List.setIfInBounds_toArray, List.set_cons_zero, List.set_cons_succ]
  refine takeP (i := 14) rfl (by kernel_rfl) (by kernel_rfl) (by kernel_rfl) (fun _ _ _ h => h) (by rfl) (by assumption) (v := ?_) ?_ ?_
  rotate_left
  · intro w' hSw
    try dsimp only at hSw
    go_simp
    try with_reducible rfl
  try simp only [Act.put, List.setIfInBounds_toArray, List.set_cons_zero, List.set_cons_succ]
  refine takeP (i := 16) rfl (by kernel_rfl) (by kernel_rfl) (by kernel_rfl) (fun _ _ _ h => h) (by rfl) (by assumption) (v := ?_) ?_ ?_
  rotate_left
  · intro w' hSw
    try dsimp only at hSw
    go_simp
    try with_reducible rfl
  try simp only [Act.put, List.setIfInBounds_toArray, List.set_cons_zero, List.set_cons_succ]
  refine takeP (i := 17) rfl (by kernel_rfl) (by kernel_rfl) (by kernel_rfl) (fun _ _ _ h => h) (by rfl) (by assumption) (v := ?_) ?_ ?_
  rotate_left
  · intro w' hSw
    try dsimp only at hSw
    go_simp
    try with_reducible rfl
  try simp only [Act.put, List.setIfInBounds_toArray, List.set_cons_zero, List.set_cons_succ]
  refine takeP (i := 18) rfl (by kernel_rfl) (by kernel_rfl) (by kernel_rfl) (fun _ _ _ h => h) (by rfl) (by assumption) (v := ?_) ?_ ?_
  rotate_left
  · intro w' hSw
    try dsimp only at hSw
    go_simp
    try with_reducible rfl
  try simp only [Act.put, List.setIfInBounds_toArray, List.set_cons_zero, List.set_cons_succ]
  refine carryP (i := 15) rfl (by kernel_rfl) (by rfl) (fun K hK => ?_)
  go_simp
  refine (HNUM.out _).mono ?_
  rintro r wn ⟨rfl, hbn⟩
  have hcn := HC.below hbn hc0
  go_wp2_with fail
  refine hK.out _ _ ?_ (fun hHeld => ?_)
  · first | assumption | exact HC.alloc' (by assumption) _
  clear hK K
  try simp only [Act.put, List.setIfInBounds_toArray, List.set_cons_zero, List.set_cons_succ]
  refine takeP (i := 19) rfl (by kernel_rfl) (by kernel_rfl) (by kernel_rfl) (fun _ _ _ h => h) (by rfl) (by assumption) (v := ?_) ?_ ?_
  rotate_left
  · intro w' hSw
    try dsimp only at hSw
    go_simp
    try with_reducible rfl
  try simp only [Act.put, List.setIfInBounds_toArray, List.set_cons_zero, List.set_cons_succ]
  refine takeP (i := 20) rfl (by kernel_rfl) (by kernel_rfl) (by kernel_rfl) (fun _ _ _ h => h) (by rfl) (by assumption) (v := ?_) ?_ ?_
  rotate_left
  · intro w' hSw
    try dsimp only at hSw
    go_simp
    try with_reducible rfl
  try simp only [Act.put, List.setIfInBounds_toArray, List.set_cons_zero, List.set_cons_succ]
  refine takeP (i := 21) rfl (by kernel_rfl) (by kernel_rfl) (by kernel_rfl) (fun _ _ _ h => h) (by rfl) (by assumption) (v := ?_) ?_ ?_
  rotate_left
  · intro w' hSw
    try dsimp only at hSw
    go_simp
    try with_reducible rfl
  try simp only [Act.put, List.setIfInBounds_toArray, List.set_cons_zero, List.set_cons_succ]
  refine takeP (i := 22) rfl (by kernel_rfl) (by kernel_rfl) (by kernel_rfl) (fun _ _ _ h => h) (by rfl) (by assumption) (v := ?_) ?_ ?_
  rotate_left
  · intro w' hSw
    try dsimp only at hSw
    go_simp
    try with_reducible rfl
  try simp only [Act.put, List.setIfInBounds_toArray, List.set_cons_zero, List.set_cons_succ]
  refine takeP (i := 23) rfl (by kernel_rfl) (by kernel_rfl) (by kernel_rfl) (fun _ _ _ h => h) (by rfl) (by assumption) (v := ?_) ?_ ?_
  rotate_left
  · intro w' hSw
    try dsimp only at hSw
    go_simp
    try with_reducible rfl
  try simp only [Act.put, List.setIfInBounds_toArray, List.set_cons_zero, List.set_cons_succ]
  refine takeP (i := 24) rfl (by kernel_rfl) (by kernel_rfl) (by kernel_rfl) (fun _ _ _ h => h) (by rfl) (by assumption) (v := ?_) ?_ ?_
  rotate_left
  · intro w' hSw
    try dsimp only at hSw
    go_simp
    try with_reducible rfl
  try simp only [Act.put, List.setIfInBounds_toArray, List.set_cons_zero, List.set_cons_succ]
  refine takeP (i := 25) rfl (by kernel_rfl) (by kernel_rfl) (by kernel_rfl) (fun _ _ _ h => h) (by rfl) (by assumption) (v := ?_) ?_ ?_
  rotate_left
  · intro w' hSw
    try dsimp only at hSw
    go_simp
    try with_reducible rfl
  try simp only [Act.put, List.setIfInBounds_toArray, List.set_cons_zero, List.set_cons_succ]
  refine takeP (i := 26) rfl (by kernel_rfl) (by kernel_rfl) (by kernel_rfl) (fun _ _ _ h => h) (by rfl) (by assumption) (v := ?_) ?_ ?_
  rotate_left
  · intro w' hSw
    try dsimp only at hSw
    go_simp
    try with_reducible rfl
  try simp only [Act.put, List.setIfInBounds_toArray, List.set_cons_zero, List.set_cons_succ]
  refine carryP (i := 27) rfl (by kernel_rfl) (by rfl) (fun K hK => ?_)
  go_simp
  refine hK.out _ _ ?_ (fun hHeld => ?_)
  · first | assumption | exact HC.alloc' (by assumption) _
  clear hK K
  try simp only [Act.put, List.setIfInBounds_toArray, List.set_cons_zero, List.set_cons_succ]
  refine carryP (i := 28) rfl (by kernel_rfl) (by rfl) (fun K hK => ?_)
  go_simp
  refine hK.out _ _ ?_ (fun hHeld => ?_)
  · first | assumption | exact HC.alloc' (by assumption) _
  clear hK K
  try simp only [Act.put, List.setIfInBounds_toArray, List.set_cons_zero, List.set_cons_succ]
  refine takeP (i := 29) rfl (by kernel_rfl) (by kernel_rfl) (by kernel_rfl) (fun _ _ _ h => h) (by rfl) (by assumption) (v := ?_) ?_ ?_
  rotate_left
  · intro w' hSw
    try dsimp only at hSw
    go_simp
    try with_reducible rfl
  try simp only [Act.put, List.setIfInBounds_toArray, List.set_cons_zero, List.set_cons_succ]
  refine takeP (i := 30) rfl (by kernel_rfl) (by kernel_rfl) (by kernel_rfl) (fun _ _ _ h => h) (by rfl) (by assumption) (v := ?_) ?_ ?_
  rotate_left
  · intro w' hSw
    try dsimp only at hSw
    go_simp
    try with_reducible rfl
  try simp only [Act.put, List.setIfInBounds_toArray, List.set_cons_zero, List.set_cons_succ]
  refine wpAnyH_done (by kernel_rfl) ?_ _
  have hcm := hcn.alloc' (.cells (madeCells #[Value.int .u8 0] (s.size - 32)) 5)
  have hcd := hcm.drew
  clear hcn hc0 hHeld hmk hcv HNUM d5 d5p d4 d4b d4n d4p d3 d3p hbn b32 b32' hsub b4
  generalize wn.alloc (.cells (madeCells #[Value.int .u8 0] (s.size - 32)) 5) = wm at *
  go_wp2_with fail
  go_region_held3 (fun w' => HC w w.heap.size 30 (.int .u64 0) (.int .u32 0) (.int .u32 0) (.int .u32 0) w') (assumption) (first | (go_at_call 35; refine (HN28.out _).mono ?_; rintro r wq ⟨rfl, hbq⟩; have hcq := HC.below hbq hcd) | (go_at_call 29; refine (HCR.out _).mono ?_; rintro r wz ⟨rfl, rfl⟩))
  go_wp2_with fail
  refine (HFT.out _).mono ?_
  rintro r wT ⟨rfl, hbT⟩
  have hcT := HC.below hbT hcq
  clear hcq hbT
  go_wp2_with fail
  refine (HFE.out _).mono ?_
  rintro r wE ⟨rfl, hbE⟩
  have hcE := HC.below hbE hcT
  clear hcT hbE
  go_wp2_with fail
  refine (HFM.out _).mono ?_
  rintro r wM ⟨rfl, hbM⟩
  have hcM := HC.below hbM hcE
  clear hcE hbM
  go_wp2_with fail
  refine (HFF.out _).mono ?_
  rintro r wF ⟨rfl, hbF⟩
  have hcF := HC.below hbF hcM
  clear hcM hbF
  have hq := heap_alloc_new wF (.cells #[.int .u64 (t : Int), .int .u32 (e : Int), .int .u32 (m : Int), .int .u32 (f : Int)] 30)
  have hcG := hcF.alloc' (.cells #[.int .u64 (t : Int), .int .u32 (e : Int), .int .u32 (m : Int), .int .u32 (f : Int)] 30)
  obtain ⟨⟨q0, q1, q2, q3⟩, _⟩ := cell4 hq
  clear hcF
  go_wp2_with fail
  generalize wF.alloc (.cells #[.int .u64 (t : Int), .int .u32 (e : Int), .int .u32 (m : Int), .int .u32 (f : Int)] 30) = wG at *
  generalize wF.heap.size = G at *
  refine (refright_any wG t e m f bt be' bm bf).mono ?_
  rintro r wH ⟨rfl, hbH⟩
  rw [decide_eq_false hR]
  have hcH := HC.below hbH hcG
  clear q0 q1 q2 q3 hq hcG hbH hR
  obtain ⟨⟨a0, a1, a2, a3⟩, f0, f1, f2, f3⟩ := cell4 hcH.1
  have hbz := below4 hcH.2 (Nat.le_refl _) (.int .u64 0) (.int .u32 0) (.int .u32 0) (.int .u32 0)
  obtain ⟨⟨t0, t1, t2, t3⟩, _⟩ := cell4 (set4 hcH.1 (.int .u64 0) (.int .u32 0) (.int .u32 0) (.int .u32 0))
  clear hcH 
  go_wp2
  exact bodyPost_ret (v := .tuple #[.agg #[.int .u64 0, .int .u32 0, .int .u32 0, .int .u32 0], .int .i64 11]) (by simp [results, Try.results19, go_sem, t0, t1, t2, t3]) rfl ⟨rfl, hbz⟩

set_option maxRecDepth 20000 in
set_option maxHeartbeats 1000000 in
theorem rget_right (w : World) (s : ByteArray) (l : List UInt8) (hs : Hid (s = st l)) (hl1 : 512 ≤ s.size) (hl2 : s.size ≤ 4096) (hm : l.take 4 = [82, 85, 66, 49]) (hn : numAt l 4 4 = l.length) (hd : l.drop 32 = List.replicate (l.length - 32) 0) (hsum : numAt l 28 4 = crcOf (l.take 28)) (hR : MRight (numAt l 8 8) (numAt l 16 4) (numAt l 20 4) (numAt l 24 4)) :
    Calls Try.prog 19 #[.string s] w fun r w' => r = .returned (.tuple #[metaV (some (numAt l 8 8, numAt l 16 4, numAt l 20 4, numAt l 24 4)), .int .i64 0]) ∧ Below w.heap.size w w' := by
  have d1 : decide ((s.size : Int) < 512) = false := decide_eq_false (by omega)
  have d2 : decide (4096 < (s.size : Int)) = false := decide_eq_false (by omega)
  have b4 : (4 : Int) ≤ (s.size : Int) := by omega
  have e4 : (s.extract 0 4).toList = l.take 4 := by rw [hs.out, st_extract]; simp
  have d3 : ((s.extract 0 4).toList == [82, 85, 66, 49]) = true := by rw [e4]; simpa using hm
  have d3p : (s.extract 0 4).toList = [82, 85, 66, 49] := by rw [e4]; exact hm
  clear e4 hm
  have hb0 : Below w.heap.size w (w.alloc (.cells #[.int .u64 0, .int .u32 0, .int .u32 0, .int .u32 0] 30)) := (Below.refl _ _).alloc (Nat.le_refl _) _
  have hll : s.size = l.length := by rw [hs.out, st_size]
  have hnum := fun w : World => rnumat_i w l 4 4 (by omega) (by omega) (by omega) (by omega) (by omega)
  obtain ⟨X, hX⟩ : ∃ X, numAt l 4 4 = X := ⟨_, rfl⟩
  rw [show (4 : Int).toNat = 4 from rfl, hX, ← hs.out] at hnum
  rw [hX, ← hll] at hn
  have d4 : ((X : Int) != (s.size : Int)) = false := by rw [hn]; simp
  have d4b : ((X : Int) == (s.size : Int)) = true := by rw [hn]; simp
  have d4n : (X == s.size) = true := by rw [hn]; simp
  have HNUM := Lib.hid hnum
  have d4p := hn
  have HLL := Lib.hid hll
  have hr0 := heap_alloc_new w (.cells #[.int .u64 0, .int .u32 0, .int .u32 0, .int .u32 0] 30)
  have hc0 : HC w w.heap.size 30 (.int .u64 0) (.int .u32 0) (.int .u32 0) (.int .u32 0) (w.alloc (.cells #[.int .u64 0, .int .u32 0, .int .u32 0, .int .u32 0] 30)).drew := ⟨hr0, hb0.drew⟩
  have hlw : IntKind.u64.wrap (s.size : Int) = (s.size : Int) := IntWalk.u64_in _ (by omega)
  clear hX hn hnum hr0 hb0 hll
  obtain ⟨Z, hZ⟩ : ∃ Z, st (List.replicate (s.size - 32) 0) = Z := ⟨_, rfl⟩
  have b32 : (32 : Int) ≤ (s.size : Int) := by omega
  have b32' : (0 : Int) ≤ (s.size : Int) - 32 := by omega
  have e32 : (s.extract 32 s.size).toList = l.drop 32 := by rw [hs.out, st_extract, st_size, List.take_of_length_le (Nat.le_refl _)]; simp
  have eZ : Z.toList = List.replicate (s.size - 32) 0 := by rw [← hZ]; simp
  have hll2 : s.size = l.length := HLL.out
  have d5 : ((s.extract 32 s.size).toList == Z.toList) = true := by rw [e32, eZ, hll2]; simpa using hd
  have d5p : (s.extract 32 s.size).toList = Z.toList := by rw [e32, eZ, hll2]; exact hd
  obtain ⟨ii, hi0, hz0, hz1, hz2⟩ := info_parts info_u8
  have hsub : IntKind.i64.wrap ((s.size : Int) - 32) = (s.size : Int) - 32 := IntWalk.i64_in _ (by omega)
  have hmk := fun W : World => run_make (P := Try.prog) W 33 5 ii _ Try.underlying33 hi0 hz0 .i64 .i64 ((s.size : Int) - 32) ((s.size : Int) - 32) (by omega) (Int.le_refl _) (by rw [hz2]; omega) (by omega)
  have htn : ((s.size : Int) - 32).toNat = s.size - 32 := by omega
  rw [hz1, htn] at hmk
  have hcv : ∀ W : World, (convert 33 9 (.slice (some ⟨W.heap.size, 0, none⟩) (s.size - 32) (s.size - 32))).run Try.prog (W.alloc (.cells (madeCells #[Value.int .u8 0] (s.size - 32)) 5)) = .ok (.string Z) (W.alloc (.cells (madeCells #[Value.int .u8 0] (s.size - 32)) 5)) := by
    intro W
    rw [← hZ]
    have hrow : RowB (W.alloc (.cells (madeCells #[Value.int .u8 0] (s.size - 32)) 5)) W.heap.size (List.replicate (s.size - 32) 0) := by have h0 := RowB.made W (s.size - 32); rw [Nat.mul_one] at h0; exact h0
    exact string_of_sl (P := Try.prog) Try.underlying33 Try.underlying5 Try.underlying9 (hrow.slN (n := s.size - 32) (by simp) (by omega))
  clear hd e32 eZ hZ hi0 hz0 hz1 hz2 htn hll2
  have b28 : (28 : Int) ≤ (s.size : Int) := by omega
  have e28 : Hid (s.extract 0 28 = st (l.take 28)) := Lib.hid (by rw [hs.out, st_extract, List.drop_zero])
  have hsumc := fun w : World => refcrc_s w (s.extract 0 28) (l.take 28) e28 (by have := HLL.out; rw [List.length_take]; omega)
  have hcl := crcOf_lt (l.take 28)
  obtain ⟨CC, hCC⟩ : ∃ CC, crcOf (l.take 28) = CC := ⟨_, rfl⟩
  rw [hCC] at hcl hsumc
  have HCR := Lib.hid hsumc
  have hcw : IntKind.u64.wrap (CC : Int) = (CC : Int) := IntWalk.u64_in _ (by omega)
  have hn28 := fun w : World => rnumat_i w l 28 4 (by omega) (by omega) (by omega) (by have := HLL.out; omega) (by have := HLL.out; omega)
  obtain ⟨NN, hNN⟩ : ∃ NN, numAt l 28 4 = NN := ⟨_, rfl⟩
  rw [show (28 : Int).toNat = 28 from rfl, show (4 : Int).toNat = 4 from rfl, hNN, ← hs.out] at hn28
  have HN28 := Lib.hid hn28
  rw [hCC, hNN] at hsum
  clear hCC hNN hsumc hn28
  have d6 : ((NN : Int) != (CC : Int)) = false := by rw [hsum]; simp
  have d6b : ((NN : Int) == (CC : Int)) = true := by rw [hsum]; simp
  have d6n : (NN == CC) = true := by rw [hsum]; simp
  clear hsum
  have hfT := fun w : World => rnumat_i w l 8 8 (by omega) (by omega) (by omega) (by have := HLL.out; omega) (by have := HLL.out; omega)
  have hltT := numAt_lt l 8 8
  obtain ⟨t, ht⟩ : ∃ t, numAt l 8 8 = t := ⟨_, rfl⟩
  simp only [Int.reduceToNat] at hfT
  rw [ht, ← hs.out] at hfT
  rw [ht] at hR hltT
  have HFT := Lib.hid hfT
  have HVT := Lib.hid ht
  clear hfT ht
  have hfE := fun w : World => rnumat_i w l 16 4 (by omega) (by omega) (by omega) (by have := HLL.out; omega) (by have := HLL.out; omega)
  have hltE := numAt_lt l 16 4
  obtain ⟨e, he⟩ : ∃ e, numAt l 16 4 = e := ⟨_, rfl⟩
  simp only [Int.reduceToNat] at hfE
  rw [he, ← hs.out] at hfE
  rw [he] at hR hltE
  have HFE := Lib.hid hfE
  have HVE := Lib.hid he
  clear hfE he
  have hfM := fun w : World => rnumat_i w l 20 4 (by omega) (by omega) (by omega) (by have := HLL.out; omega) (by have := HLL.out; omega)
  have hltM := numAt_lt l 20 4
  obtain ⟨m, hm⟩ : ∃ m, numAt l 20 4 = m := ⟨_, rfl⟩
  simp only [Int.reduceToNat] at hfM
  rw [hm, ← hs.out] at hfM
  rw [hm] at hR hltM
  have HFM := Lib.hid hfM
  have HVM := Lib.hid hm
  clear hfM hm
  have hfF := fun w : World => rnumat_i w l 24 4 (by omega) (by omega) (by omega) (by have := HLL.out; omega) (by have := HLL.out; omega)
  have hltF := numAt_lt l 24 4
  obtain ⟨f, hf⟩ : ∃ f, numAt l 24 4 = f := ⟨_, rfl⟩
  simp only [Int.reduceToNat] at hfF
  rw [hf, ← hs.out] at hfF
  rw [hf] at hR hltF
  have HFF := Lib.hid hfF
  have HVF := Lib.hid hf
  clear hfF hf
  have bt : t < 18446744073709551616 := by simpa using hltT
  have be' : e < 4294967296 := by simpa using hltE
  have bm : m < 4294967296 := by simpa using hltM
  have bf : f < 4294967296 := by simpa using hltF
  have we : IntKind.u32.wrap (e : Int) = (e : Int) := IntWalk.u32_in _ (by omega)
  have wm' : IntKind.u32.wrap (m : Int) = (m : Int) := IntWalk.u32_in _ (by omega)
  have wf : IntKind.u32.wrap (f : Int) = (f : Int) := IntWalk.u32_in _ (by omega)
  clear hltT hltE hltM hltF
  go_enter Try.func19, Try.ntmps19
  go_wp2
  refine wp_region_held_drew (S := (fun w' => HC w w.heap.size 30 (.int .u64 0) (.int .u32 0) (.int .u32 0) (.int .u32 0) w')) (by kernel_rfl) ?_ (fun hHeld => ?_)
  · first | assumption | exact HC.alloc' (by assumption) _
  refine takeP (i := 0) rfl (by kernel_rfl) (by kernel_rfl) (by kernel_rfl) (fun _ _ _ h => h) (by rfl) (by assumption) (v := ?_) ?_ ?_
  rotate_left
  · intro w' hSw
    try dsimp only at hSw
    go_simp
    try with_reducible rfl
  try simp only [Act.put, List.setIfInBounds_toArray, List.set_cons_zero, List.set_cons_succ]
  refine takeP (i := 1) rfl (by kernel_rfl) (by kernel_rfl) (by kernel_rfl) (fun _ _ _ h => h) (by rfl) (by assumption) (v := ?_) ?_ ?_
  rotate_left
  · intro w' hSw
    try dsimp only at hSw
    go_simp
    try with_reducible rfl
  try simp only [Act.put, List.setIfInBounds_toArray, List.set_cons_zero, List.set_cons_succ]
  refine takeP (i := 2) rfl (by kernel_rfl) (by kernel_rfl) (by kernel_rfl) (fun _ _ _ h => h) (by rfl) (by assumption) (v := ?_) ?_ ?_
  rotate_left
  · intro w' hSw
    try dsimp only at hSw
    go_simp
    try with_reducible rfl
  try simp only [Act.put, List.setIfInBounds_toArray, List.set_cons_zero, List.set_cons_succ]
  refine takeP (i := 3) rfl (by kernel_rfl) (by kernel_rfl) (by kernel_rfl) (fun _ _ _ h => h) (by rfl) (by assumption) (v := ?_) ?_ ?_
  rotate_left
  · intro w' hSw
    try dsimp only at hSw
    go_simp
    try with_reducible rfl
  try simp only [Act.put, List.setIfInBounds_toArray, List.set_cons_zero, List.set_cons_succ]
  refine takeP (i := 4) rfl (by kernel_rfl) (by kernel_rfl) (by kernel_rfl) (fun _ _ _ h => h) (by rfl) (by assumption) (v := ?_) ?_ ?_
  rotate_left
  · intro w' hSw
    try dsimp only at hSw
    go_simp
    try with_reducible rfl
  try simp only [Act.put, List.setIfInBounds_toArray, List.set_cons_zero, List.set_cons_succ]
  refine takeP (i := 5) rfl (by kernel_rfl) (by kernel_rfl) (by kernel_rfl) (fun _ _ _ h => h) (by rfl) (by assumption) (v := ?_) ?_ ?_
  rotate_left
  · intro w' hSw
    try dsimp only at hSw
    go_simp
    try with_reducible rfl
  try simp only [Act.put, List.setIfInBounds_toArray, List.set_cons_zero, List.set_cons_succ]
  refine takeP (i := 6) rfl (by kernel_rfl) (by kernel_rfl) (by kernel_rfl) (fun _ _ _ h => h) (by rfl) (by assumption) (v := ?_) ?_ ?_
  rotate_left
  · intro w' hSw
    try dsimp only at hSw
    go_simp
    try with_reducible rfl
  try simp only [Act.put, List.setIfInBounds_toArray, List.set_cons_zero, List.set_cons_succ]
  refine takeP (i := 7) rfl (by kernel_rfl) (by kernel_rfl) (by kernel_rfl) (fun _ _ _ h => h) (by rfl) (by assumption) (v := ?_) ?_ ?_
  rotate_left
  · intro w' hSw
    try dsimp only at hSw
    go_simp
    try with_reducible rfl
  try simp only [Act.put, List.setIfInBounds_toArray, List.set_cons_zero, List.set_cons_succ]
  refine takeP (i := 8) rfl (by kernel_rfl) (by kernel_rfl) (by kernel_rfl) (fun _ _ _ h => h) (by rfl) (by assumption) (v := ?_) ?_ ?_
  rotate_left
  · intro w' hSw
    try dsimp only at hSw
    go_simp
    try with_reducible rfl
  try simp only [Act.put, List.setIfInBounds_toArray, List.set_cons_zero, List.set_cons_succ]
  refine takeP (i := 9) rfl (by kernel_rfl) (by kernel_rfl) (by kernel_rfl) (fun _ _ _ h => h) (by rfl) (by assumption) (v := ?_) ?_ ?_
  rotate_left
  · intro w' hSw
    try dsimp only at hSw
    go_simp
    try with_reducible rfl
  try simp only [Act.put, List.setIfInBounds_toArray, List.set_cons_zero, List.set_cons_succ]
  refine takeP (i := 10) rfl (by kernel_rfl) (by kernel_rfl) (by kernel_rfl) (fun _ _ _ h => h) (by rfl) (by assumption) (v := ?_) ?_ ?_
  rotate_left
  · intro w' hSw
    try dsimp only at hSw
    go_simp
    try with_reducible rfl
  try simp only [Act.put, List.setIfInBounds_toArray, List.set_cons_zero, List.set_cons_succ]
  refine takeP (i := 11) rfl (by kernel_rfl) (by kernel_rfl) (by kernel_rfl) (fun _ _ _ h => h) (by rfl) (by assumption) (v := ?_) ?_ ?_
  rotate_left
  · intro w' hSw
    try dsimp only at hSw
    go_simp
    try with_reducible rfl
  try simp only [Act.put, List.setIfInBounds_toArray, List.set_cons_zero, List.set_cons_succ]
  refine takeP (i := 12) rfl (by kernel_rfl) (by kernel_rfl) (by kernel_rfl) (fun _ _ _ h => h) (by rfl) (by assumption) (v := ?_) ?_ ?_
  rotate_left
  · intro w' hSw
    try dsimp only at hSw
    go_simp
    try with_reducible rfl
  try simp only [Act.put, List.setIfInBounds_toArray, List.set_cons_zero, List.set_cons_succ]
  refine takeP (i := 13) rfl (by kernel_rfl) (by kernel_rfl) (by kernel_rfl) (fun _ _ _ h => h) (by rfl) (by assumption) (v := ?_) ?_ ?_
  rotate_left
  · intro w' hSw
    try dsimp only at hSw
    go_simp
    try with_reducible rfl
  try simp only [Act.put, List.setIfInBounds_toArray, List.set_cons_zero, List.set_cons_succ]
  refine takeP (i := 14) rfl (by kernel_rfl) (by kernel_rfl) (by kernel_rfl) (fun _ _ _ h => h) (by rfl) (by assumption) (v := ?_) ?_ ?_
  rotate_left
  · intro w' hSw
    try dsimp only at hSw
    go_simp
    try with_reducible rfl
  try simp only [Act.put, List.setIfInBounds_toArray, List.set_cons_zero, List.set_cons_succ]
  refine takeP (i := 16) rfl (by kernel_rfl) (by kernel_rfl) (by kernel_rfl) (fun _ _ _ h => h) (by rfl) (by assumption) (v := ?_) ?_ ?_
  rotate_left
  · intro w' hSw
    try dsimp only at hSw
    go_simp
    try with_reducible rfl
  try simp only [Act.put, List.setIfInBounds_toArray, List.set_cons_zero, List.set_cons_succ]
  refine takeP (i := 17) rfl (by kernel_rfl) (by kernel_rfl) (by kernel_rfl) (fun _ _ _ h => h) (by rfl) (by assumption) (v := ?_) ?_ ?_
  rotate_left
  · intro w' hSw
    try dsimp only at hSw
    go_simp
    try with_reducible rfl
  try simp only [Act.put, List.setIfInBounds_toArray, List.set_cons_zero, List.set_cons_succ]
  refine takeP (i := 18) rfl (by kernel_rfl) (by kernel_rfl) (by kernel_rfl) (fun _ _ _ h => h) (by rfl) (by assumption) (v := ?_) ?_ ?_
  rotate_left
  · intro w' hSw
    try dsimp only at hSw
    go_simp
    try with_reducible rfl
  try simp only [Act.put, List.setIfInBounds_toArray, List.set_cons_zero, List.set_cons_succ]
  refine carryP (i := 15) rfl (by kernel_rfl) (by rfl) (fun K hK => ?_)
  go_simp
  refine (HNUM.out _).mono ?_
  rintro r wn ⟨rfl, hbn⟩
  have hcn := HC.below hbn hc0
  go_wp2_with fail
  refine hK.out _ _ ?_ (fun hHeld => ?_)
  · first | assumption | exact HC.alloc' (by assumption) _
  clear hK K
  try simp only [Act.put, List.setIfInBounds_toArray, List.set_cons_zero, List.set_cons_succ]
  refine takeP (i := 19) rfl (by kernel_rfl) (by kernel_rfl) (by kernel_rfl) (fun _ _ _ h => h) (by rfl) (by assumption) (v := ?_) ?_ ?_
  rotate_left
  · intro w' hSw
    try dsimp only at hSw
    go_simp
    try with_reducible rfl
  try simp only [Act.put, List.setIfInBounds_toArray, List.set_cons_zero, List.set_cons_succ]
  refine takeP (i := 20) rfl (by kernel_rfl) (by kernel_rfl) (by kernel_rfl) (fun _ _ _ h => h) (by rfl) (by assumption) (v := ?_) ?_ ?_
  rotate_left
  · intro w' hSw
    try dsimp only at hSw
    go_simp
    try with_reducible rfl
  try simp only [Act.put, List.setIfInBounds_toArray, List.set_cons_zero, List.set_cons_succ]
  refine takeP (i := 21) rfl (by kernel_rfl) (by kernel_rfl) (by kernel_rfl) (fun _ _ _ h => h) (by rfl) (by assumption) (v := ?_) ?_ ?_
  rotate_left
  · intro w' hSw
    try dsimp only at hSw
    go_simp
    try with_reducible rfl
  try simp only [Act.put, List.setIfInBounds_toArray, List.set_cons_zero, List.set_cons_succ]
  refine takeP (i := 22) rfl (by kernel_rfl) (by kernel_rfl) (by kernel_rfl) (fun _ _ _ h => h) (by rfl) (by assumption) (v := ?_) ?_ ?_
  rotate_left
  · intro w' hSw
    try dsimp only at hSw
    go_simp
    try with_reducible rfl
  try simp only [Act.put, List.setIfInBounds_toArray, List.set_cons_zero, List.set_cons_succ]
  refine takeP (i := 23) rfl (by kernel_rfl) (by kernel_rfl) (by kernel_rfl) (fun _ _ _ h => h) (by rfl) (by assumption) (v := ?_) ?_ ?_
  rotate_left
  · intro w' hSw
    try dsimp only at hSw
    go_simp
    try with_reducible rfl
  try simp only [Act.put, List.setIfInBounds_toArray, List.set_cons_zero, List.set_cons_succ]
  refine takeP (i := 24) rfl (by kernel_rfl) (by kernel_rfl) (by kernel_rfl) (fun _ _ _ h => h) (by rfl) (by assumption) (v := ?_) ?_ ?_
  rotate_left
  · intro w' hSw
    try dsimp only at hSw
    go_simp
    try with_reducible rfl
  try simp only [Act.put, List.setIfInBounds_toArray, List.set_cons_zero, List.set_cons_succ]
  refine takeP (i := 25) rfl (by kernel_rfl) (by kernel_rfl) (by kernel_rfl) (fun _ _ _ h => h) (by rfl) (by assumption) (v := ?_) ?_ ?_
  rotate_left
  · intro w' hSw
    try dsimp only at hSw
    go_simp
    try with_reducible rfl
  try simp only [Act.put, List.setIfInBounds_toArray, List.set_cons_zero, List.set_cons_succ]
  refine takeP (i := 26) rfl (by kernel_rfl) (by kernel_rfl) (by kernel_rfl) (fun _ _ _ h => h) (by rfl) (by assumption) (v := ?_) ?_ ?_
  rotate_left
  · intro w' hSw
    try dsimp only at hSw
    go_simp
    try with_reducible rfl
  try simp only [Act.put, List.setIfInBounds_toArray, List.set_cons_zero, List.set_cons_succ]
  refine carryP (i := 27) rfl (by kernel_rfl) (by rfl) (fun K hK => ?_)
  go_simp
  refine hK.out _ _ ?_ (fun hHeld => ?_)
  · first | assumption | exact HC.alloc' (by assumption) _
  clear hK K
  try simp only [Act.put, List.setIfInBounds_toArray, List.set_cons_zero, List.set_cons_succ]
  refine carryP (i := 28) rfl (by kernel_rfl) (by rfl) (fun K hK => ?_)
  go_simp
  refine hK.out _ _ ?_ (fun hHeld => ?_)
  · first | assumption | exact HC.alloc' (by assumption) _
  clear hK K
  try simp only [Act.put, List.setIfInBounds_toArray, List.set_cons_zero, List.set_cons_succ]
  refine takeP (i := 29) rfl (by kernel_rfl) (by kernel_rfl) (by kernel_rfl) (fun _ _ _ h => h) (by rfl) (by assumption) (v := ?_) ?_ ?_
  rotate_left
  · intro w' hSw
    try dsimp only at hSw
    go_simp
    try with_reducible rfl
  try simp only [Act.put, List.setIfInBounds_toArray, List.set_cons_zero, List.set_cons_succ]
  refine takeP (i := 30) rfl (by kernel_rfl) (by kernel_rfl) (by kernel_rfl) (fun _ _ _ h => h) (by rfl) (by assumption) (v := ?_) ?_ ?_
  rotate_left
  · intro w' hSw
    try dsimp only at hSw
    go_simp
    try with_reducible rfl
  try simp only [Act.put, List.setIfInBounds_toArray, List.set_cons_zero, List.set_cons_succ]
  refine wpAnyH_done (by kernel_rfl) ?_ _
  have hcm := hcn.alloc' (.cells (madeCells #[Value.int .u8 0] (s.size - 32)) 5)
  have hcd := hcm.drew
  clear hcn hc0 hHeld hmk hcv HNUM d5 d5p d4 d4b d4n d4p d3 d3p hbn b32 b32' hsub b4
  generalize wn.alloc (.cells (madeCells #[Value.int .u8 0] (s.size - 32)) 5) = wm at *
  go_wp2_with fail
  go_region_held3 (fun w' => HC w w.heap.size 30 (.int .u64 0) (.int .u32 0) (.int .u32 0) (.int .u32 0) w') (assumption) (first | (go_at_call 35; refine (HN28.out _).mono ?_; rintro r wq ⟨rfl, hbq⟩; have hcq := HC.below hbq hcd) | (go_at_call 29; refine (HCR.out _).mono ?_; rintro r wz ⟨rfl, rfl⟩))
  go_wp2_with fail
  refine (HFT.out _).mono ?_
  rintro r wT ⟨rfl, hbT⟩
  have hcT := HC.below hbT hcq
  clear hcq hbT
  go_wp2_with fail
  refine (HFE.out _).mono ?_
  rintro r wE ⟨rfl, hbE⟩
  have hcE := HC.below hbE hcT
  clear hcT hbE
  go_wp2_with fail
  refine (HFM.out _).mono ?_
  rintro r wM ⟨rfl, hbM⟩
  have hcM := HC.below hbM hcE
  clear hcE hbM
  go_wp2_with fail
  refine (HFF.out _).mono ?_
  rintro r wF ⟨rfl, hbF⟩
  have hcF := HC.below hbF hcM
  clear hcM hbF
  have hq := heap_alloc_new wF (.cells #[.int .u64 (t : Int), .int .u32 (e : Int), .int .u32 (m : Int), .int .u32 (f : Int)] 30)
  have hcG := hcF.alloc' (.cells #[.int .u64 (t : Int), .int .u32 (e : Int), .int .u32 (m : Int), .int .u32 (f : Int)] 30)
  obtain ⟨⟨q0, q1, q2, q3⟩, _⟩ := cell4 hq
  clear hcF
  go_wp2_with fail
  generalize wF.alloc (.cells #[.int .u64 (t : Int), .int .u32 (e : Int), .int .u32 (m : Int), .int .u32 (f : Int)] 30) = wG at *
  generalize wF.heap.size = G at *
  refine (refright_any wG t e m f bt be' bm bf).mono ?_
  rintro r wH ⟨rfl, hbH⟩
  rw [decide_eq_true hR]
  have hcH := HC.below hbH hcG
  have hq := blk_below hq hbH (blk_lt hq)
  obtain ⟨⟨q0, q1, q2, q3⟩, _⟩ := cell4 hq
  obtain ⟨⟨a0, a1, a2, a3⟩, f0, f1, f2, f3⟩ := cell4 hcH.1
  have hbz := below4 hcH.2 (Nat.le_refl _) (.int .u64 (t : Int)) (.int .u32 (e : Int)) (.int .u32 (m : Int)) (.int .u32 (f : Int))
  obtain ⟨⟨t0, t1, t2, t3⟩, _⟩ := cell4 (set4 hcH.1 (.int .u64 (t : Int)) (.int .u32 (e : Int)) (.int .u32 (m : Int)) (.int .u32 (f : Int)))
  clear hcH hq hcG hbH hR
  go_wp2
  refine bodyPost_ret (v := .tuple #[.agg #[.int .u64 (t : Int), .int .u32 (e : Int), .int .u32 (m : Int), .int .u32 (f : Int)], .int .i64 0]) (by simp [results, Try.results19, go_sem, t0, t1, t2, t3]) rfl ⟨?_, hbz⟩
  rw [HVT.out, HVE.out, HVM.out, HVF.out]
  rfl

theorem rget_any (w : World) (l : List UInt8) (hl : l.length ≤ 140737488355328) :
    Calls Try.prog 19 #[.string (st l)] w fun r w' => r = .returned (.tuple #[metaV (mGet l).1, .int .i64 (mGet l).2]) ∧ Below w.heap.size w w' := by
  have hs : Hid (st l = st l) := Lib.hid rfl
  have hz : (st l).size = l.length := st_size l
  unfold mGet
  by_cases c1 : 512 ≤ l.length ∧ l.length ≤ 4096
  · rw [if_neg (fun h => h c1)]
    by_cases c2 : l.take 4 = [82, 85, 66, 49] ∧ numAt l 4 4 = l.length ∧ l.drop 32 = List.replicate (l.length - 32) 0
    · rw [if_neg (fun h => h c2)]
      by_cases c3 : numAt l 28 4 = crcOf (l.take 28)
      · rw [if_neg (fun h => h c3)]
        by_cases c4 : MRight (numAt l 8 8) (numAt l 16 4) (numAt l 20 4) (numAt l 24 4)
        · rw [if_neg (fun h => h c4)]
          exact rget_right w (st l) l hs (by omega) (by omega) c2.1 c2.2.1 c2.2.2 c3 c4
        · rw [if_pos c4]
          exact rget_wrong w (st l) l hs (by omega) (by omega) c2.1 c2.2.1 c2.2.2 c3 c4
      · rw [if_pos c3]
        exact rget_sum w (st l) l hs (by omega) (by omega) c2.1 c2.2.1 c2.2.2 c3
    · rw [if_pos c2]
      by_cases d1 : l.take 4 = [82, 85, 66, 49]
      · by_cases d2 : numAt l 4 4 = l.length
        · exact rget_tail w (st l) l hs (by omega) (by omega) d1 d2 (fun h => c2 ⟨d1, d2, h⟩)
        · exact rget_num w (st l) l hs (by omega) (by omega) d1 d2
      · exact rget_mark w (st l) l hs (by omega) (by omega) d1
  · rw [if_pos c1]
    by_cases d1 : l.length < 512
    · exact rget_short w (st l) l hs (by omega)
    · exact rget_long w (st l) l hs (by omega) (by omega)

end Go.Proofs.Ytpipgeboddaipaa
