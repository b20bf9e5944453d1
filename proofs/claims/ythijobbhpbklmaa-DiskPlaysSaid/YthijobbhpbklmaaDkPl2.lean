/- DiskB; Region; Once; OnceB; Grow; Write; Read; Sync -/
import Derived.Test.YthijobbhpbklmaaDkPl1
import Derived.Tactics
import Derived.Tactics2
import Derived.RegionTactic
import Derived.RegionCalls
import Derived.Deep.RegionHeld3
import Derived.ChangeAlike
import Derived.Laws.NewBlocks
set_option linter.unusedVariables false
set_option linter.unusedSimpArgs false
open List (setIfInBounds_toArray set_cons_zero set_cons_succ)
namespace Go.Proofs.Ythijobbhpbklmaa
open Go.RowKit
theorem Dk.OK.failed {D : Dk} (h : D.OK) (a : Int) (ha : a ≤ 9223372036854775807) : (D.failed a).OK :=
  ⟨h.s1, h.s2, h.s3, h.l1, h.l2, h.g1, h.g2, h.o1, by show -1 ≤ (if a < -1 then -1 else a); split <;> omega, by show (if a < -1 then -1 else a) ≤ _; split <;> omega⟩
section
variable {w : World} {base : Nat} {ok : Nat → Prop} {p : Nat} {D : Dk}
theorem dfail_any (h : DiskAt w base ok p D) (a : Int) (ha : a ≤ 9223372036854775807) : Calls Try.prog 27 #[.pointer (some ⟨p, 0, none⟩), .int .i64 a] w fun e w' => e = .returned (.tuple #[]) ∧ DiskAt w' base ok p (D.failed a) ∧ At p w w' := by
  obtain ⟨G, L, dn, Z, h⟩ := h
  obtain ⟨_, _, _, _, c4, _⟩ := h.blk.cells
  have z4 := h.blk.free 4
  have hwf := h.wf
  have hb4 := h.blk.set4 (if a < -1 then -1 else a)
  have FIN := Lib.hid (show DiskAt (w.setCell ⟨p, 4, none⟩ (.int .i64 (if a < -1 then -1 else a))) base ok p (D.failed a) from
    ⟨G, L, dn, Z, h.at_ ((At.refl p w).setCell 4 _) hb4 rfl rfl rfl (hwf.failed a ha) h.cb⟩)
  have HA := Lib.hid ((At.refl p w).setCell 4 (.int .i64 (if a < -1 then -1 else a)))
  clear h hwf hb4
  by_cases hlt : a < -1
  · rw [if_pos hlt] at FIN HA
    have d1 : decide (a < -1) = true := decide_eq_true hlt
    go_enter Try.func27, Try.ntmps27
    go_wp2
    go_end0
    exact ⟨rfl, FIN.out, HA.out⟩
  · rw [if_neg hlt] at FIN HA
    have d1 : decide (a < -1) = false := decide_eq_false hlt
    go_enter Try.func27, Try.ntmps27
    go_wp2
    go_end0
    exact ⟨rfl, FIN.out, HA.out⟩
end
def NewOk (S L : Int) : Prop := 512 ≤ S ∧ S ≤ 4096 ∧ S % 128 = 0 ∧ 1 ≤ L ∧ L ≤ 65536
theorem dNew_ok (size limit : Nat) (h : NewOk (size : Int) (limit : Int)) : (dNew size limit).OK := by
  obtain ⟨h1, h2, h3, h4, h5⟩ := h
  exact ⟨by show 512 ≤ size; omega, by show size ≤ 4096; omega, by show size % 128 = 0; omega, by show 1 ≤ limit; omega, by show limit ≤ 65536; omega, Nat.zero_le _, (by intro r hr; cases hr), (by intro x hx; cases hx), by show (-1 : Int) ≤ -1; omega, by show (-1 : Int) ≤ _; omega⟩
theorem dnew_is (w : World) (size limit : Nat) (h : NewOk (size : Int) (limit : Int)) (base : Nat) (ok : Nat → Prop) (hbase : base ≤ w.heap.size) (hok : ok w.heap.size) :
    Calls Try.prog 15 #[.int .i64 (size : Int), .int .i64 (limit : Int)] w fun e w' => e = .returned (.tuple #[.pointer (some ⟨w.heap.size, 0, none⟩), .int .i64 0]) ∧ DiskAt w' base ok w.heap.size (dNew size limit) ∧ Below w.heap.size w w' := by
  have hwf := dNew_ok size limit h
  obtain ⟨h1, h2, h3, h4, h5⟩ := h
  have d1 : decide ((size : Int) < 512) = false := decide_eq_false (by omega)
  have d2 : decide (4096 < (size : Int)) = false := decide_eq_false (by omega)
  have m1 : (size : Int).tmod 128 = 0 := by rw [Int.tmod_eq_emod_of_nonneg (by omega)]; exact h3
  have d4 : decide ((limit : Int) < 1) = false := decide_eq_false (by omega)
  have d5 : decide (65536 < (limit : Int)) = false := decide_eq_false (by omega)
  have hblk := heap_alloc_new w (.cells #[.int .i64 (size : Int), .int .i64 (limit : Int), .slice none 0 0, .slice none 0 0, .int .i64 (-1), .int .i64 0, .int .u32 0, .int .i32 0, .int .u32 0, .slice none 0 0] 123)
  go_enter Try.func15, Try.ntmps15
  go_wp2
  go_ret2
  refine ⟨rfl, ⟨.slice none 0 0, .slice none 0 0, 0, .slice none 0 0, hblk, hbase, hok, ⟨none, 0, [], rfl, World.ownsRow_nil _ _ _ _, by intro k hk; simp [Value.ownBlock] at hk, by intro i l hi; simp [dNew] at hi⟩, ⟨none, 0, [], rfl, World.ownsRow_nil _ _ _ _, by intro k hk; simp [Value.ownBlock] at hk, by intro i l hi; simp [dNew] at hi⟩, .inl rfl, hwf, Nat.zero_le _⟩, (Below.refl _ _).alloc (Nat.le_refl _) _⟩
theorem dnew_no (w : World) (S L : Int) (h : ¬ NewOk S L) :
    Calls Try.prog 15 #[.int .i64 S, .int .i64 L] w fun e w' => e = .returned (.tuple #[.pointer none, .int .i64 1]) ∧ w = w' := by
  by_cases h1 : S < 512
  · have d1 : decide (S < 512) = true := decide_eq_true h1
    go_enter Try.func15, Try.ntmps15
    go_wp2
    go_ret2
    exact ⟨rfl, rfl⟩
  have d1 : decide (S < 512) = false := decide_eq_false h1
  by_cases h2 : 4096 < S
  · have d2 : decide (4096 < S) = true := decide_eq_true h2
    go_enter Try.func15, Try.ntmps15
    go_wp2
    go_ret2
    exact ⟨rfl, rfl⟩
  have d2 : decide (4096 < S) = false := decide_eq_false h2
  have m1 : S.tmod 128 = S % 128 := Int.tmod_eq_emod_of_nonneg (by omega)
  by_cases h3 : S % 128 = 0
  · by_cases h4 : L < 1
    · have d4 : decide (L < 1) = true := decide_eq_true h4
      go_enter Try.func15, Try.ntmps15
      go_wp2
      go_ret2
      exact ⟨rfl, rfl⟩
    · have d4 : decide (L < 1) = false := decide_eq_false h4
      have d5 : decide (65536 < L) = true := decide_eq_true (by unfold NewOk at h; omega)
      go_enter Try.func15, Try.ntmps15
      go_wp2
      go_ret2
      exact ⟨rfl, rfl⟩
  · have d3 : (S % 128 != 0) = true := by simp [h3]
    go_enter Try.func15, Try.ntmps15
    go_wp2
    go_ret2
    exact ⟨rfl, rfl⟩
end Go.Proofs.Ythijobbhpbklmaa

/- The moves of a walk through a region that draws its order, an operation at a time: one that is pure under S, one whose guard is false, one that is carried out. -/
namespace Go.Proofs.Ythijobbhpbklmaa
open Go.RowKit
section
variable {P : Program} {l : List Oper} {Q : Exit → Act → World → Prop} {md : Region.Mode} {S : World → Prop}
theorem takeP {i : Nat} {oi : Oper} {v : Value} {fuel : Nat} {listed : Array Bool} {a : Act} {w : World} (hi : l[i]? = some oi)
    (hs : Region.noSelect l.toArray = true) (hf : Region.free md l.toArray listed i = true) (hr : (Region.ready md l.toArray listed).contains i = true)
    (hQ : ∀ c a w, Q (.panic c) (a.put oi.dst v) w → Q (.panic c) a w) (hw : Region.wanted oi (yielded l.toArray a.tmps) = true) (hS : S w)
    (hv : ∀ w, S w → (execOp a.eval oi).run P w = .ok (.value v) w)
    (h : wpAnyH P md l.toArray Q S fuel (listed.setIfInBounds i true) (a.put oi.dst v) w) : wpAnyH P md l.toArray Q S (fuel + 1) listed a w :=
  wpAnyH_take (oi := oi) (by simpa using hi) hs hf hr hQ (.inl ⟨hw, hv⟩) hS h
theorem carryP {i : Nat} {oi : Oper} {fuel : Nat} {listed : Array Bool} {a : Act} {w : World} (hi : l[i]? = some oi)
    (hr : Region.ready md l.toArray listed = [i]) (hw : Region.wanted oi (yielded l.toArray a.tmps) = true)
    (h : ∀ K' : Act → World → Prop, Shut (∀ a w, S w → (S w → wpAnyH P md l.toArray Q S fuel (listed.setIfInBounds i true) a w) → K' a w) → Oper.wp P oi a w K' Q) : wpAnyH P md l.toArray Q S (fuel + 1) listed a w := by
  refine wpAnyH_ready hr (by simp) (AllReadyH.cons (o := oi) (by simpa using hi) (fun K hK => ?_) AllReadyH.nil)
  rw [if_pos hw]
  exact h K hK
theorem carryP2 {i j : Nat} {oi oj : Oper} {fuel : Nat} {listed : Array Bool} {a : Act} {w : World} (hi : l[i]? = some oi) (hj : l[j]? = some oj)
    (hr : Region.ready md l.toArray listed = [i, j]) (hw : Region.wanted oi (yielded l.toArray a.tmps) = true) (hw' : Region.wanted oj (yielded l.toArray a.tmps) = true)
    (h : ∀ K' : Act → World → Prop, Shut (∀ a w, S w → (S w → wpAnyH P md l.toArray Q S fuel (listed.setIfInBounds i true) a w) → K' a w) → Oper.wp P oi a w K' Q)
    (h' : ∀ K' : Act → World → Prop, Shut (∀ a w, S w → (S w → wpAnyH P md l.toArray Q S fuel (listed.setIfInBounds j true) a w) → K' a w) → Oper.wp P oj a w K' Q) : wpAnyH P md l.toArray Q S (fuel + 1) listed a w := by
  refine wpAnyH_ready hr (by simp) (AllReadyH.cons (o := oi) (by simpa using hi) (fun K hK => ?_) (AllReadyH.cons (o := oj) (by simpa using hj) (fun K hK => ?_) AllReadyH.nil))
  · rw [if_pos hw]
    exact h K hK
  · rw [if_pos hw']
    exact h' K hK
end
end Go.Proofs.Ythijobbhpbklmaa

namespace Go.Proofs.Ythijobbhpbklmaa
open Go.RowKit
theorem wp_make_bytesN {P : Program} (w : World) {o : Oper} {a : Act} {K : Act → World → Prop} {Q : Exit → Act → World → Prop}
    (l c : Operand) (t : TypeId) (hop : o.op = Op.makeSlice t l c) (h1 : P.underlying t = some (.slice 5))
    (hinfo : (P.info? 5).map (fun i => (i.zero, i.size, i.bytes)) = some (some (.int .u8 0), 1, 1))
    (kl kc : IntKind) (N : Int) (hl : a.eval l = .int kl N) (hc : a.eval c = .int kc N) (n : Nat) (hN : (n : Int) = N) (b2 : n ≤ 140737488355328)
    (hK : ∀ w', RowB w' w.heap.size (List.replicate n 0) → Below w.heap.size w w' → K (a.put o.dst (.slice (some ⟨w.heap.size, 0, none⟩) n n)) w') : o.wp P a w K Q := by
  subst hN
  obtain ⟨i, h2, h3, h4, h5⟩ := info_parts hinfo
  have hrun := run_make (P := P) w t 5 i _ h1 h2 h3 kl kc (n : Int) (n : Int) (by omega) (Int.le_refl _) (by rw [h5]; omega) (by omega)
  rw [h4] at hrun
  unfold Oper.wp
  simp [execOp, hop, hl, hc, hrun, Result.andThen]
  exact hK _ (by simpa using RowB.made w n) ((Below.refl _ _).alloc (Nat.le_refl _) _)
theorem race_disable (w : World) : (callFunc 108 #[]).run Try.prog w = .ok (.value (.tuple #[])) w := run_call_mark0 Try.func108 (by kernel_rfl) (by kernel_rfl) (by kernel_rfl) .disable (by kernel_rfl) w
theorem race_enable (w : World) : (callFunc 110 #[]).run Try.prog w = .ok (.value (.tuple #[])) w := run_call_mark0 Try.func110 (by kernel_rfl) (by kernel_rfl) (by kernel_rfl) .enable (by kernel_rfl) w
theorem race_acquire (a : Addr) (w : World) : (callFunc 111 #[.pointer (some a)]).run Try.prog w = .ok (.value (.tuple #[])) w := run_call_marked Try.func111 (by kernel_rfl) (by kernel_rfl) (by kernel_rfl) .acquire (by kernel_rfl) a w
theorem race_releaseMerge (a : Addr) (w : World) : (callFunc 113 #[.pointer (some a)]).run Try.prog w = .ok (.value (.tuple #[])) w := run_call_marked Try.func113 (by kernel_rfl) (by kernel_rfl) (by kernel_rfl) .releaseMerge (by kernel_rfl) a w
theorem store_deferred (a : Addr) (x : Value) (u : FrameMode) (w : World) (hc : w.cell? a = some x) (hz : w.frozen? a = false) :
    CallsD Try.prog 90 #[.pointer (some a), .bool true] u w fun e u' w' => u' = u ∧ (e = .returned (.tuple #[]) ∧ w' = w.drew.setCell a (.int .u32 1)) := by
  have hc' : w.drew.cell? a = some x := by go_simp
  have hz' : w.drew.frozen? a = false := by go_simp
  have hst := run_call_store (P := Try.prog) Try.func95 (by kernel_rfl) (by kernel_rfl) (by kernel_rfl) (by kernel_rfl) (k := .u32) (y := 1) hc' hz'
  go_enter_d Try.func90, Try.ntmps90
  go_wp2
  go_region_calls
  all_goals (go_end0; exact ⟨rfl, rfl⟩)
set_option maxRecDepth 100000 in
set_option maxHeartbeats 1600000 in
theorem unlock_deferred (a : Addr) (u : FrameMode) (w : World) (hc : w.cell? a = some (.int .i32 1)) (hz : w.frozen? a = false) :
    CallsD Try.prog 89 #[.pointer (some a)] u w fun e u' w' => u' = u ∧ (e = .returned (.tuple #[]) ∧ w' = w.setCell a (.int .i32 0)) := by
  have hd := race_disable
  have he := race_enable
  have hr := race_releaseMerge
  have hadd := run_call_add (P := Try.prog) Try.func114 (by kernel_rfl) (by kernel_rfl) (by kernel_rfl) .i32 (by kernel_rfl) (y := -1) (s := 0) hc hz (by simp [go_sem]; rfl)
  have hcv := run_convert_to_unsafe (P := Try.prog) (src := 186) (dst := 190) Try.underlying186 Try.underlying190 (by kernel_rfl) hc
  go_enter_d Try.func89, Try.ntmps89
  go_wp2
  go_end0
  go_wp2
  go_end0
  exact ⟨rfl, rfl⟩
set_option maxRecDepth 100000 in
set_option maxHeartbeats 1600000 in
theorem lock_free (a : Addr) (w : World) (hc : w.cell? a = some (.int .i32 0)) (hz : w.frozen? a = false) :
    Calls Try.prog 88 #[.pointer (some a)] w fun e w' => e = .returned (.tuple #[]) ∧ w' = w.setCell a (.int .i32 1) := by
  have hd := race_disable
  have he := race_enable
  have ha := race_acquire
  have hcas := run_call_cas_hit (P := Try.prog) Try.func109 (by kernel_rfl) (by kernel_rfl) (by kernel_rfl) .i32 (by kernel_rfl) (y := 1) hc hz
  have hc' : (w.setCell a (.int .i32 1)).cell? a = some (.int .i32 1) := World.cell?_setCell_same w a _ hc
  have hcv := run_convert_to_unsafe (P := Try.prog) (src := 186) (dst := 190) Try.underlying186 Try.underlying190 (by kernel_rfl) hc'
  go_enter Try.func88, Try.ntmps88
  go_wp2
  first | go_end0 | (simp only [Exit.inBlock, Exit.then]; refine bodyPost_ret (results_none rfl _ _ _) rfl ?_) | refine bodyPost_ret (results_none rfl _ _ _) rfl ?_
  go_wp2
  go_end0
  exact ⟨rfl, rfl⟩
def OnceP (w : World) (p s l : Nat) (G L : Value) (fa : Int) (ca : Nat) (e : Ending) (w' : World) : Prop :=
  e = .returned (.tuple #[]) ∧ ∃ g, DBlk w' p s l G L fa ca 1 (.slice (some ⟨g, 0, none⟩) s s) ∧ RowB w' g (zeros s) ∧ w.heap.size ≤ g ∧ At p w w'
set_option maxRecDepth 100000 in
set_option maxHeartbeats 1600000 in
theorem slow_any (w : World) (p pl s l ca : Nat) (G L Z : Value) (fa : Int) (hpl : pl ≠ p) (hp : w.cell? ⟨pl, 0, none⟩ = some (.pointer (some ⟨p, 0, none⟩))) (hb : DBlk w p s l G L fa ca 0 Z) (h1 : 512 ≤ s) (h2 : s ≤ 4096) :
    Calls Try.prog 83 #[.pointer (some ⟨p, 6, none⟩), .func (.func 74) #[] #[.pointer (some ⟨pl, 0, none⟩)]] w (OnceP w p s l G L fa ca) := by
  obtain ⟨c0, _, _, _, _, _, c6, c7, _, c9⟩ := hb.cells
  have z6 := hb.free 6
  have z7 := hb.free 7
  have z9 := hb.free 9
  have hb7 : (w.setCell ⟨p, 7, none⟩ (.int .i32 1)).heap[p]? = some (.cells #[.int .i64 (s : Int), .int .i64 (l : Int), G, L, .int .i64 fa, .int .i64 (ca : Int), .int .u32 0, .int .i32 1, .int .u32 0, Z] 123 (0, 0)) := by simpa using blk_set hb 7 (.int .i32 1)
  have d0 := blk_cell hb7 0
  have d6 := blk_cell hb7 6
  have d9 := blk_cell hb7 9
  have y9 := blk_frozen hb7 9
  have hl := run_call_load (P := Try.prog) Try.func87 (by kernel_rfl) (by kernel_rfl) (by kernel_rfl) .u32 (by kernel_rfl) (w := w.setCell ⟨p, 7, none⟩ (.int .i32 1)) (a := ⟨p, 6, none⟩) (x := 0) d6
  have hp1 : (w.setCell ⟨p, 7, none⟩ (.int .i32 1)).cell? ⟨pl, 0, none⟩ = some (.pointer (some ⟨p, 0, none⟩)) := (World.cell?_setCell_other _ ⟨p, 7, none⟩ ⟨pl, 0, none⟩ _ (fun h => hpl (by injection h with h; exact h.symm))).trans hp
  have hnot : ∀ (x : Bool) (w : World), (Op.unary .not (.bool x)).run Try.prog w = .ok (.bool (!x)) w := fun _ _ => rfl
  go_enter_defers Try.func83, Try.ntmps83
  go_wp2_with (go_at_call 88; refine (lock_free ⟨p, 7, none⟩ _ c7 z7).mono ?_; rintro e w' ⟨rfl, rfl⟩)
  go_wp2
  have q0 := And.intro hp1 d0
  have hpW : p < (w.setCell ⟨p, 7, none⟩ (.int .i32 1)).heap.size := blk_lt hb7
  have hplW : pl < (w.setCell ⟨p, 7, none⟩ (.int .i32 1)).heap.size := World.block_lt_of_cell? _ _ hp1
  have hA7 : At p w (w.setCell ⟨p, 7, none⟩ (.int .i32 1)) := (At.refl p w).setCell 7 _
  have hzW : (w.setCell ⟨p, 7, none⟩ (.int .i32 1)).heap.size = w.heap.size := by simp
  generalize w.setCell ⟨p, 7, none⟩ (.int .i32 1) = W at hb7 d0 d6 d9 y9 hl hp1 q0 hpW hplW hA7 hzW ⊢
  have HZW := Lib.hid hzW
  clear hzW hp c0 c6 c7 c9 z6 z7 z9
-- REGION
  refine wp_region_held_drew (S := (fun W => W.cell? ⟨pl, 0, none⟩ = some (.pointer (some ⟨p, 0, none⟩)) ∧ W.cell? ⟨p, 0, none⟩ = some (.int .i64 (s : Int)))) (by kernel_rfl) ?_ (fun hHeld => ?_)
  · first | exact q0 | exact q1 | exact q2 _
  refine takeP (i := 0) rfl (by kernel_rfl) (by kernel_rfl) (by kernel_rfl) (fun _ _ _ h => h) (by rfl) (by assumption) (v := ?_) ?_ ?_
  rotate_left
  · intro w' hSw
    try dsimp only at hSw
    go_simp
    try with_reducible rfl
  try simp only [Act.put, setIfInBounds_toArray, set_cons_zero, set_cons_succ]
  refine takeP (i := 1) rfl (by kernel_rfl) (by kernel_rfl) (by kernel_rfl) (fun _ _ _ h => h) (by rfl) (by assumption) (v := ?_) ?_ ?_
  rotate_left
  · intro w' hSw
    try dsimp only at hSw
    go_simp
    try with_reducible rfl
  try simp only [Act.put, setIfInBounds_toArray, set_cons_zero, set_cons_succ]
  refine takeP (i := 2) rfl (by kernel_rfl) (by kernel_rfl) (by kernel_rfl) (fun _ _ _ h => h) (by rfl) (by assumption) (v := ?_) ?_ ?_
  rotate_left
  · intro w' hSw
    try dsimp only at hSw
    go_simp
    try with_reducible rfl
  try simp only [Act.put, setIfInBounds_toArray, set_cons_zero, set_cons_succ]
  refine takeP (i := 3) rfl (by kernel_rfl) (by kernel_rfl) (by kernel_rfl) (fun _ _ _ h => h) (by rfl) (by assumption) (v := ?_) ?_ ?_
  rotate_left
  · intro w' hSw
    try dsimp only at hSw
    go_simp
    try with_reducible rfl
  try simp only [Act.put, setIfInBounds_toArray, set_cons_zero, set_cons_succ]
  refine takeP (i := 4) rfl (by kernel_rfl) (by kernel_rfl) (by kernel_rfl) (fun _ _ _ h => h) (by rfl) (by assumption) (v := ?_) ?_ ?_
  rotate_left
  · intro w' hSw
    try dsimp only at hSw
    go_simp
    try with_reducible rfl
  try simp only [Act.put, setIfInBounds_toArray, set_cons_zero, set_cons_succ]
  refine carryP (i := 5) rfl (by kernel_rfl) (by rfl) (fun K hK => ?_)
  refine wp_make_bytesN _ (.tmp 5) (.tmp 5) _ rfl Try.underlying30 info_u8 _ _ (s : Int) rfl rfl s rfl (by omega) ?_
  intro w8 hr8 hb8
  have q1 : w8.cell? ⟨pl, 0, none⟩ = some (.pointer (some ⟨p, 0, none⟩)) ∧ w8.cell? ⟨p, 0, none⟩ = some (.int .i64 (s : Int)) := ⟨(hb8.cell (p := ⟨pl, 0, none⟩) hplW).trans q0.1, (hb8.cell (p := ⟨p, 0, none⟩) hpW).trans q0.2⟩
  have e9 : w8.cell? ⟨p, 9, none⟩ = some Z := (hb8.cell (p := ⟨p, 9, none⟩) hpW).trans d9
  have g9 : w8.frozen? ⟨p, 9, none⟩ = false := (hb8.frozen (p := ⟨p, 9, none⟩) hpW).trans y9
  refine hK.out _ _ ?_ (fun hHeld => ?_)
  · first | exact q0 | exact q1 | exact q2 _
  clear hK K
  try simp only [Act.put, setIfInBounds_toArray, set_cons_zero, set_cons_succ]
  refine takeP (i := 6) rfl (by kernel_rfl) (by kernel_rfl) (by kernel_rfl) (fun _ _ _ h => h) (by rfl) (by assumption) (v := ?_) ?_ ?_
  rotate_left
  · intro w' hSw
    try dsimp only at hSw
    go_simp
    try with_reducible rfl
  try simp only [Act.put, setIfInBounds_toArray, set_cons_zero, set_cons_succ]
  refine takeP (i := 7) rfl (by kernel_rfl) (by kernel_rfl) (by kernel_rfl) (fun _ _ _ h => h) (by rfl) (by assumption) (v := ?_) ?_ ?_
  rotate_left
  · intro w' hSw
    try dsimp only at hSw
    go_simp
    try with_reducible rfl
  try simp only [Act.put, setIfInBounds_toArray, set_cons_zero, set_cons_succ]
  refine carryP (i := 8) rfl (by kernel_rfl) (by rfl) (fun K hK => ?_)
  have q2 : ∀ u, (w8.setCell ⟨p, 9, none⟩ u).cell? ⟨pl, 0, none⟩ = some (.pointer (some ⟨p, 0, none⟩)) ∧ (w8.setCell ⟨p, 9, none⟩ u).cell? ⟨p, 0, none⟩ = some (.int .i64 (s : Int)) := fun u => ⟨(World.cell?_setCell_other _ ⟨p, 9, none⟩ ⟨pl, 0, none⟩ u (fun h => hpl (by injection h with h; exact h.symm))).trans q1.1, (World.cell?_setCell_other _ ⟨p, 9, none⟩ ⟨p, 0, none⟩ u (by simp)).trans q1.2⟩
  go_simp
  refine hK.out _ _ ?_ (fun hHeld => ?_)
  · first | exact q0 | exact q1 | exact q2 _
  clear hK K
  try simp only [Act.put, setIfInBounds_toArray, set_cons_zero, set_cons_succ]
  refine wpAnyH_done (by kernel_rfl) ?_ _
  have hb9 : (w8.setCell ⟨p, 9, none⟩ (.slice (some ⟨W.heap.size, 0, none⟩) s s)).heap[p]? = some (.cells #[.int .i64 (s : Int), .int .i64 (l : Int), G, L, .int .i64 fa, .int .i64 (ca : Int), .int .u32 0, .int .i32 1, .int .u32 0, (.slice (some ⟨W.heap.size, 0, none⟩) s s)] 123 (0, 0)) := by simpa using blk_set ((hb8.block p hpW).trans hb7) 9 (.slice (some ⟨W.heap.size, 0, none⟩) s s)
  have hr9 : RowB (w8.setCell ⟨p, 9, none⟩ (.slice (some ⟨W.heap.size, 0, none⟩) s s)) W.heap.size (List.replicate s 0) := blk_far hr8 (p := ⟨p, 9, none⟩) (by show W.heap.size ≠ p; omega) _
  have hA9 : At p w (w8.setCell ⟨p, 9, none⟩ (.slice (some ⟨W.heap.size, 0, none⟩) s s)) := (hA7.trans (At.of_below (show Below W.heap.size W w8 from ⟨hb8.os, hb8.tape, hb8.output, hb8.size, hb8.block⟩))).setCell 9 _
  obtain ⟨g, hg⟩ : ∃ g, W.heap.size = g := ⟨_, rfl⟩
  have hzW := HZW.out
  have hnp : p < W.heap.size := hpW
  rw [hg] at hb9 hr9 hA9 hzW hnp
  rw [hg]
  generalize w8.setCell ⟨p, 9, none⟩ (.slice (some ⟨g, 0, none⟩) s s) = W9 at hb9 hr9 hA9 ⊢
  clear q0 q1 q2 e9 g9 hr8 hb8 hl hp1 d0 d6 d9 y9 hb7
  go_end0
  go_wp2
  refine leaves_cons (f := 90) (args := #[.pointer (some ⟨p, 6, none⟩), .bool true]) (by simp) (by simp [go_sem]) ?_
  refine (store_deferred ⟨p, 6, none⟩ (.int .u32 0) .returning _ (blk_cell hb9 6) (blk_frozen hb9 6)).mono ?_
  rintro e u' w'' ⟨rfl, rfl, rfl⟩
  have hb10 : (W9.drew.setCell ⟨p, 6, none⟩ (.int .u32 1)).heap[p]? = some (.cells #[.int .i64 (s : Int), .int .i64 (l : Int), G, L, .int .i64 fa, .int .i64 (ca : Int), .int .u32 1, .int .i32 1, .int .u32 0, (.slice (some ⟨g, 0, none⟩) s s)] 123 (0, 0)) := by simpa using blk_set (w := W9.drew) hb9 6 (.int .u32 1)
  refine leaves_cons (f := 89) (args := #[.pointer (some ⟨p, 7, none⟩)]) (by simp [settle]) (by simp [go_sem]) ?_
  refine (unlock_deferred ⟨p, 7, none⟩ _ _ (blk_cell hb10 7) (blk_frozen hb10 7)).mono ?_
  rintro e u' w'' ⟨rfl, rfl, rfl⟩
  have hb11 : DBlk ((W9.drew.setCell ⟨p, 6, none⟩ (.int .u32 1)).setCell ⟨p, 7, none⟩ (.int .i32 0)) p s l G L fa ca 1 (.slice (some ⟨g, 0, none⟩) s s) := by unfold DBlk; simpa using blk_set hb10 7 (.int .i32 0)
  have hgp : g ≠ p := by omega
  have hr11 : RowB ((W9.drew.setCell ⟨p, 6, none⟩ (.int .u32 1)).setCell ⟨p, 7, none⟩ (.int .i32 0)) g (zeros s) := blk_far (blk_far (w := W9.drew) hr9 (p := ⟨p, 6, none⟩) hgp _) (p := ⟨p, 7, none⟩) hgp _
  have hA11 : At p w ((W9.drew.setCell ⟨p, 6, none⟩ (.int .u32 1)).setCell ⟨p, 7, none⟩ (.int .i32 0)) := (hA9.drew.setCell 6 _).setCell 7 _
  have FIN : OnceP w p s l G L fa ca (.returned (.tuple #[])) ((W9.drew.setCell ⟨p, 6, none⟩ (.int .u32 1)).setCell ⟨p, 7, none⟩ (.int .i32 0)) := ⟨rfl, g, hb11, hr11, by omega, hA11⟩
  simpa [Leaves, settle, results, Try.results83] using FIN
  -- END REGION
end Go.Proofs.Ythijobbhpbklmaa

namespace Go.Proofs.Ythijobbhpbklmaa
open Go.RowKit
set_option maxRecDepth 100000 in
set_option maxHeartbeats 1600000 in
theorem do_first (w : World) (p pl s l ca : Nat) (G L Z : Value) (fa : Int) (hpl : pl ≠ p) (hp : w.cell? ⟨pl, 0, none⟩ = some (.pointer (some ⟨p, 0, none⟩))) (hb : DBlk w p s l G L fa ca 0 Z) (h1 : 512 ≤ s) (h2 : s ≤ 4096) :
    Calls Try.prog 73 #[.pointer (some ⟨p, 6, none⟩), .func (.func 74) #[] #[.pointer (some ⟨pl, 0, none⟩)]] w (OnceP w p s l G L fa ca) := by
  have hl := run_call_load (P := Try.prog) Try.func87 (by kernel_rfl) (by kernel_rfl) (by kernel_rfl) .u32 (by kernel_rfl) (w := w) (a := ⟨p, 6, none⟩) (x := 0) (blk_cell hb 6)
  have hnot : ∀ (x : Bool) (w : World), (Op.unary .not (.bool x)).run Try.prog w = .ok (.bool (!x)) w := fun _ _ => rfl
  have hslow := slow_any w p pl s l ca G L Z fa hpl hp hb h1 h2
  go_enter Try.func73, Try.ntmps73
  go_wp2_with (first | (go_at_call 83; refine hslow.mono ?_; rintro e w' ⟨rfl, hP⟩) | (go_at_call 82; go_in))
  go_end0
  exact ⟨rfl, hP⟩
theorem do_done (w : World) (a : Addr) (fv : Value) (h0 : w.cell? a = some (.int .u32 1)) :
    Calls Try.prog 73 #[.pointer (some a), fv] w fun e w' => e = .returned (.tuple #[]) ∧ w' = w := by
  have hl := run_call_load (P := Try.prog) Try.func87 (by kernel_rfl) (by kernel_rfl) (by kernel_rfl) .u32 (by kernel_rfl) h0
  have hnot : ∀ (x : Bool) (w : World), (Op.unary .not (.bool x)).run Try.prog w = .ok (.bool (!x)) w := fun _ _ => rfl
  go_enter Try.func73, Try.ntmps73
  go_wp2
  go_end0
  exact ⟨rfl, rfl⟩
theorem DAt.at2 {w w' : World} {base p : Nat} {ok : Nat → Prop} {D : Dk} {G L Z Z' : Value} {dn dn' : Int} (h : DAt w base ok p D G L dn Z) (hA : At p w w') (hb : DBlk w' p D.size D.limit G L D.fails D.calls dn' Z') (hz : dn' = 0 ∨ (dn' = 1 ∧ PgAt w' ok Z' (zeros D.size))) : DAt w' base ok p D G L dn' Z' := by
  have hne : ∀ (g : Nat) (C : Array Value) (t : TypeId) (fr : Nat × Nat), t ≠ 123 → w.heap[g]? = some (.cells C t fr) → w'.heap[g]? = w.heap[g]? := fun g C t fr ht hg => hA.block g (blk_lt hg) (fun e => by
    injection e with e
    subst e
    rw [h.blk] at hg
    injection hg with hg
    injection hg with _ hg
    exact ht hg.symm)
  exact ⟨hb, h.bp, h.okp, h.good.keep (fun g C hc => hne g C 30 (0, 0) (by decide) hc) (fun g C fr hc => hne g C 5 fr (by decide) hc),
    h.loose.keep (fun g C hc => hne g C 129 (0, 0) (by decide) hc) (fun g C fr hc => hne g C 5 fr (by decide) hc), hz, h.wf, h.cb⟩
def EmptyP (w : World) (base : Nat) (ok : Nat → Prop) (p : Nat) (D : Dk) (G L : Value) (e : Ending) (w' : World) : Prop :=
  ∃ Z', e = .returned Z' ∧ DAt w' base ok p D G L 1 Z' ∧ PgAt w' ok Z' (zeros D.size) ∧ At p w w'
set_option maxRecDepth 100000 in
set_option maxHeartbeats 1600000 in
theorem dempty_any {w : World} {base : Nat} {ok : Nat → Prop} {p : Nat} {D : Dk} {G L Z : Value} {dn : Int} (h : DAt w base ok p D G L dn Z) (hfr : ∀ k, w.heap.size ≤ k → ok k) :
    Calls Try.prog 55 #[.pointer (some ⟨p, 0, none⟩)] w (EmptyP w base ok p D G L) := by
  have hmf : ∀ (fn : Fn) (first cap : Array Value) (w : World), (Instr.makeFunc fn first cap).run Try.prog w = .ok (.func fn first cap) w := fun _ _ _ _ => rfl
  have hb1 : Below w.heap.size w (w.alloc (.cells #[.pointer (some ⟨p, 0, none⟩)] 23)) := (Below.refl _ _).alloc (Nat.le_refl _) _
  have hD1 := h.below hb1
  have hplc : (w.alloc (.cells #[.pointer (some ⟨p, 0, none⟩)] 23)).cell? ⟨w.heap.size, 0, none⟩ = some (.pointer (some ⟨p, 0, none⟩)) := by simp
  have hpl : w.heap.size ≠ p := by have := h.blk.lt; omega
  have hpl2 : p < w.heap.size := h.blk.lt
  have hA1 : At p w (w.alloc (.cells #[.pointer (some ⟨p, 0, none⟩)] 23)) := At.of_below hb1
  have hs1 := h.wf.s1
  have hs2 := h.wf.s2
  obtain ⟨q, hq⟩ : ∃ q, w.heap.size = q := ⟨_, rfl⟩
  rw [hq] at hplc hpl hpl2 hfr
  have HFR := Lib.hid hfr
  have HQ := Lib.hid hq
  rcases h.zer with h0 | ⟨h1, hZ⟩
  · subst h0
    have hbk := hD1.blk
    have HD1 := Lib.hid hD1
    have HA1 := Lib.hid hA1
    clear hD1 hA1 hb1 h hfr
    go_enter Try.func55, Try.ntmps55
    go_wp2_with fail
    generalize w.alloc (.cells #[.pointer (some ⟨p, 0, none⟩)] 23) = W at hplc hbk HD1 HA1 ⊢
    refine (do_first W p q _ _ _ _ _ _ _ hpl hplc hbk hs1 hs2).mono ?_
    rintro e w2 ⟨rfl, g, hblk2, hrow2, hg2, hA2⟩
    have hplc2 : w2.cell? ⟨q, 0, none⟩ = some (.pointer (some ⟨p, 0, none⟩)) := (World.cell?_of_block (hA2.block q (World.block_lt_of_cell? _ _ hplc) (fun e => hpl (by injection e with e)))).trans hplc
    obtain ⟨_, _, _, _, _, _, _, _, _, c9⟩ := hblk2.cells
    have hZ2 : PgAt w2 ok (.slice (some ⟨g, 0, none⟩) D.size D.size) (zeros D.size) := PgAt.of_row hrow2 (zeros_length _) (HFR.out g (by have := HA1.out.size; have := HQ.out; omega))
    have hD2 := HD1.out.at2 hA2 hblk2 (.inr ⟨rfl, hZ2⟩)
    have hA := HA1.out.trans hA2
    have HH := Lib.hid (show EmptyP w base ok p D G L (.returned (.slice (some ⟨g, 0, none⟩) D.size D.size)) w2 from ⟨_, rfl, hD2, hZ2, hA⟩)
    clear hD2 hZ2 hA hblk2 hrow2 hA2 hplc hbk
    go_wp2_with fail
    go_ret
    exact HH.out
  · subst h1
    obtain ⟨_, _, _, _, _, _, c6, _, _, c9⟩ := hD1.blk.cells
    have hZ1 := hZ.keep (w' := w.alloc (.cells #[.pointer (some ⟨p, 0, none⟩)] 23)) (ok' := ok) fun g C fr ho hg => ⟨hb1.block g (blk_lt hg), ho⟩
    have HH := Lib.hid (show EmptyP w base ok p D G L (.returned Z) (w.alloc (.cells #[.pointer (some ⟨p, 0, none⟩)] 23)) from ⟨_, rfl, hD1, hZ1, hA1⟩)
    clear hD1 hA1 hb1 h hfr hZ hZ1
    go_enter Try.func55, Try.ntmps55
    go_wp2_with fail
    refine (do_done _ _ _ c6).mono ?_
    rintro e w2 ⟨rfl, rfl⟩
    go_wp2_with fail
    go_ret
    exact HH.out
end Go.Proofs.Ythijobbhpbklmaa

namespace Go.Proofs.Ythijobbhpbklmaa
open Go.RowKit
theorem info_bytes : (Try.prog.info? 30).map (fun i => (i.zero, i.size, i.bytes)) = some (some (.slice none 0 0), 1, 24) := by kernel_rfl
theorem DAt.drew {w : World} {base p : Nat} {ok : Nat → Prop} {D : Dk} {G L Z : Value} {dn : Int} (h : DAt w base ok p D G L dn Z) : DAt w.drew base ok p D G L dn Z := h.below (Below.refl _ _).drew
theorem DAt.regood {w w8 : World} {base p : Nat} {ok : Nat → Prop} {D : Dk} {G G' L Z : Value} {dn : Int} {good' : List (List UInt8)} (h : DAt w base ok p D G L dn Z) (hp : w8.heap[p]? = w.heap[p]?)
    (hb : ∀ (g : Nat) (C : Array Value) (fr : Nat × Nat), w.heap[g]? = some (.cells C 5 fr) → w8.heap[g]? = w.heap[g]?) (hl : ∀ (g : Nat) (C : Array Value), w.heap[g]? = some (.cells C 129 (0, 0)) → w8.heap[g]? = w.heap[g]?)
    (hG : GRow w8 base ok G' good') (hwf : ({ D with good := good' } : Dk).OK) : DAt (w8.setCell ⟨p, 2, none⟩ G') base ok p { D with good := good' } G' L dn Z := by
  have hpb : DBlk w8 p D.size D.limit G L D.fails D.calls dn Z := hp.trans h.blk
  have hne : ∀ (g : Nat) (C : Array Value) (t : TypeId) (fr : Nat × Nat), t ≠ 123 → w8.heap[g]? = some (.cells C t fr) → (w8.setCell ⟨p, 2, none⟩ G').heap[g]? = w8.heap[g]? := fun g C t fr ht hg => Below.heap_setCell _ _ _ _ (fun e => by
    subst e
    rw [hpb] at hg
    injection hg with hg
    injection hg with _ hg
    exact ht hg.symm)
  refine ⟨hpb.set2 G', h.bp, h.okp, hG.keep (fun g C hc => hne g C 30 (0, 0) (by decide) hc) (fun g C fr hc => hne g C 5 fr (by decide) hc), ?_, ?_, hwf, h.cb⟩
  · exact (h.loose.keep (w' := w8) hl hb).keep (fun g C hc => hne g C 129 (0, 0) (by decide) hc) (fun g C fr hc => hne g C 5 fr (by decide) hc)
  · rcases h.zer with h0 | ⟨h1, h2⟩
    · exact .inl h0
    · exact .inr ⟨h1, h2.keep fun g C fr ho hg => ⟨(hne g C 5 fr (by decide) ((hb g C fr hg).trans hg)).trans (hb g C fr hg), ho⟩⟩
theorem grow_step {w5 w8 : World} {base p : Nat} {ok : Nat → Prop} {D : Dk} {G L Z5 : Value} (h : DAt w5 base ok p D G L 1 Z5) (hZ : PgAt w5 ok Z5 (zeros D.size)) (hfr : ∀ k, w5.heap.size ≤ k → ok k) (hlim : D.good.length + 1 ≤ D.limit) {cs : List Value} {c0 : Nat} {A0 : Option Addr} (hG0 : G = .slice A0 D.good.length c0)
    (ho : w5.ownsRow base 30 1 G D.good.length cs) (hrow : ∀ (i : Nat) (l : List UInt8), D.good[i]? = some l → ∃ v : Value, cs[i]? = some v ∧ PgAt w5 ok v l) (hGok : ∀ k, G.ownBlock = some k → ok k) {v8 : Value} {T : TypeId} (hT : T ≠ 123)
    (hown8 : w8.ownsRow base 30 1 v8 (D.good.length + 1) (cs ++ [Z5])) (hg8 : (w5.alloc (.cells #[Z5] T)).grownBy w8 G.ownBlock) (hat8 : v8.ownBlock = G.ownBlock ∨ v8.ownBlock = some (w5.alloc (.cells #[Z5] T)).heap.size) :
    w8.heap[p]? = w5.heap[p]? ∧ DAt (w8.setCell ⟨p, 2, none⟩ v8) base ok p { D with good := D.good ++ [zeros D.size] } v8 L 1 Z5 ∧ Fr ok w5 (w8.setCell ⟨p, 2, none⟩ v8) := by
  have hst : ∀ (g : Nat) (C : Array Value) (t : TypeId) (fr : Nat × Nat), t ≠ 30 → w5.heap[g]? = some (.cells C t fr) → w8.heap[g]? = w5.heap[g]? := fun g C t fr ht hg => by
    have h1 : (w5.alloc (.cells #[Z5] T)).heap[g]? = w5.heap[g]? := Below.heap_alloc w5 _ g (blk_lt hg)
    refine (hg8.block g (by have := blk_lt hg; simp; omega) (fun e => ?_)).trans h1
    rcases ho.2 with ⟨hv, _⟩ | ⟨g', cap, cur, hv, _, hh, _⟩
    · rw [hv] at e; simp [Value.ownBlock] at e
    · rw [hv] at e
      have e : g = g' := by simpa [Value.ownBlock] using e
      subst e
      rw [hh] at hg
      injection hg with hg
      injection hg with _ hg
      exact ht hg.symm
  have hp8 := hst p _ _ _ (by decide) h.blk
  have hG8 : GRow w8 base ok v8 (D.good ++ [zeros D.size]) := by
    obtain ⟨A8, c8, rfl⟩ := own_slice hown8
    refine ⟨A8, c8, cs ++ [Z5], by simp, by simpa using hown8, fun k hk => ?_, fun i l hi => ?_⟩
    · rcases hat8 with e | e
      · exact hGok k (e ▸ hk)
      · rw [e] at hk
        injection hk with hk
        exact hfr k (by subst hk; simp)
    · have hcl : cs.length = D.good.length := by have := ho.1; omega
      by_cases hlt : i < D.good.length
      · rw [List.getElem?_append_left hlt] at hi
        obtain ⟨v, hv, hp⟩ := hrow i l hi
        exact ⟨v, by rw [List.getElem?_append_left (by omega)]; exact hv, hp.keep fun g C fr hok hg => ⟨hst g C _ fr (by decide) hg, hok⟩⟩
      · have hl := (List.getElem?_eq_some_iff.1 hi).1
        simp at hl
        obtain rfl : i = D.good.length := by omega
        simp at hi
        subst hi
        exact ⟨Z5, by rw [← hcl]; simp, hZ.keep fun g C fr hok hg => ⟨hst g C _ fr (by decide) hg, hok⟩⟩
  have hwf := h.wf
  have hwf' : ({ D with good := D.good ++ [zeros D.size] } : Dk).OK := ⟨hwf.s1, hwf.s2, hwf.s3, hwf.l1, hwf.l2, by simpa using hlim, fun r hr => by
    rcases List.mem_append.1 hr with hr | hr
    · exact hwf.g2 r hr
    · rw [List.mem_singleton.1 hr]; exact zeros_length _, fun x hx => ⟨by have := (hwf.o1 x hx).1; simp; omega, (hwf.o1 x hx).2⟩, hwf.f1, hwf.f2⟩
  refine ⟨hp8, h.regood hp8 (fun g C fr hg => hst g C _ fr (by decide) hg) (fun g C hg => hst g C _ _ (by decide) hg) hG8 hwf', Fr.set ?_ h.okp 2 v8⟩
  exact (Fr.of_below ((Below.refl _ w5).alloc (Nat.le_refl _) _)).trans (Fr.of_grown hg8 (fun k hk => hGok k hk))
def GrowP (w : World) (base : Nat) (ok : Nat → Prop) (p : Nat) (D : Dk) (N : Int) (e : Ending) (w' : World) : Prop :=
  (N < D.good.length ∧ e = .returned (.int .i64 1) ∧ w' = w) ∨ ((D.good.length : Int) ≤ N ∧ D.limit < N ∧ e = .returned (.int .i64 21) ∧ w' = w) ∨
  ((D.good.length : Int) ≤ N ∧ N ≤ D.limit ∧ D.fails = 0 ∧ e = .returned (.int .i64 20) ∧ DiskAt w' base ok p D.count ∧ Fr ok w w') ∨
  ((D.good.length : Int) ≤ N ∧ N ≤ D.limit ∧ D.fails ≠ 0 ∧ e = .returned (.int .i64 0) ∧ DiskAt w' base ok p (D.count.grown N.toNat) ∧ Fr ok w w')
def grownTo (D : Dk) (m : Nat) : Dk := { D with good := D.good ++ List.replicate m (zeros D.size) }
theorem grownTo_succ (D : Dk) (m : Nat) : ({ grownTo D m with good := (grownTo D m).good ++ [zeros (grownTo D m).size] } : Dk) = grownTo D (m + 1) := by
  simp [grownTo, List.replicate_succ', List.append_assoc]
theorem grownTo_len (D : Dk) (m : Nat) : (grownTo D m).good.length = D.good.length + m := by simp [grownTo]
def gLen : Option Value → Nat
  | some (.slice _ n _) => n
  | _ => 0
set_option maxRecDepth 100000 in
set_option maxHeartbeats 4000000 in
theorem dgrow_any {w : World} {base : Nat} {ok : Nat → Prop} {p : Nat} {D : Dk} (h : DiskAt w base ok p D) (hfr : ∀ k, w.heap.size ≤ k → ok k) (hbase : base ≤ w.heap.size) (hc : D.calls < 1000000000) (N : Int) (hN : N ≤ 9223372036854775807) :
    Calls Try.prog 16 #[.pointer (some ⟨p, 0, none⟩), .int .i64 N] w (GrowP w base ok p D N) := by
  obtain ⟨ib, bi0, bz0, bz1, bz2⟩ := info_parts info_bytes
  have hlen := dlen_any h
  obtain ⟨G, L, dn, Z, h⟩ := h
  have hwf := h.wf
  have hg1 := hwf.g1
  have hl2 := hwf.l2
  obtain ⟨n, hn⟩ : ∃ n, D.good.length = n := ⟨_, rfl⟩
  obtain ⟨_, c1, _⟩ := h.blk.cells
  obtain ⟨M, hM⟩ : ∃ M, D.limit = M := ⟨_, rfl⟩
  rw [hM] at c1 hg1 hl2
  rw [hn] at hlen hg1
  have HN := Lib.hid hn
  have HM := Lib.hid hM
  clear hn hM hwf
  by_cases t1 : N < (n : Int)
  · have d1 : decide (N < (n : Int)) = true := decide_eq_true t1
    go_enter Try.func16, Try.ntmps16
    go_wp2_with (first | (go_at_call 19; refine hlen.mono ?_; rintro e w' ⟨rfl, rfl⟩))
    go_ret
    exact .inl ⟨by rw [HN.out]; exact t1, rfl, rfl⟩
  have d1 : decide (N < (n : Int)) = false := decide_eq_false t1
  by_cases t2 : (M : Int) < N
  · have d2 : decide ((M : Int) < N) = true := decide_eq_true t2
    go_enter Try.func16, Try.ntmps16
    go_wp2_with (first | (go_at_call 19; refine hlen.mono ?_; rintro e w' ⟨rfl, rfl⟩))
    go_ret
    exact .inr (.inl ⟨by rw [HN.out]; omega, by rw [HM.out]; exact t2, rfl, rfl⟩)
  have d2 : decide ((M : Int) < N) = false := decide_eq_false t2
  obtain ⟨NN, rfl⟩ := Int.eq_ofNat_of_zero_le (show 0 ≤ N by omega)
  have hcnt := dcount_any h hc
  obtain ⟨E, hE⟩ : ∃ E, D.err = E := ⟨_, rfl⟩
  rw [hE] at hcnt
  have HE := Lib.hid hE
  have hokp := h.okp
  clear hE h
  by_cases t3 : D.fails = 0
  · have hE20 : E = 20 := by rw [← HE.out]; unfold Dk.err; rw [if_pos t3]
    subst hE20
    have HT3 := Lib.hid t3
    clear t3
    go_enter Try.func16, Try.ntmps16
    go_wp2_with (first | (go_at_call 19; refine hlen.mono ?_; rintro e w' ⟨rfl, rfl⟩) | (go_at_call 54; refine hcnt.mono ?_; rintro e w1 ⟨rfl, hD1, hA1⟩))
    go_ret
    exact .inr (.inr (.inl ⟨by rw [HN.out]; omega, by rw [HM.out]; omega, HT3.out, rfl, ⟨_, _, _, _, hD1⟩, Fr.of_at hA1 hokp⟩))
  · have hE0 : E = 0 := by rw [← HE.out]; unfold Dk.err; rw [if_neg t3]
    subst hE0
    have HT3 := Lib.hid t3
    clear t3
    go_enter Try.func16, Try.ntmps16
    go_wp2_with fail
    refine hlen.mono ?_
    rintro e w' ⟨rfl, rfl⟩
    go_wp2_with fail
    refine hcnt.mono ?_
    rintro e w1 ⟨rfl, hD1, hA1⟩
    have hF1 := Fr.of_at hA1 hokp
    have hD1' : DiskAt w1 base ok p (grownTo D.count 0) := ⟨G, L, dn, Z, by simpa [grownTo] using hD1⟩
    have hnl : Hid (D.count.good.length = n) := Lib.hid HN.out
    have hml : Hid (D.count.limit = M) := Lib.hid HM.out
    have hz1 := hF1.size
    clear hD1 hcnt hlen
    go_wp2_with fail
    go_loopw [] (fun wr => ∃ m : Nat, n + m ≤ NN ∧ DiskAt wr base ok p (grownTo D.count m) ∧ Fr ok w wr) (fun wr => NN - gLen (wr.cell? ⟨p, 2, none⟩))
    case atStart => exact ⟨0, by omega, hD1', hF1⟩
    case round =>
      obtain ⟨m, hm, hD, hF⟩ := hrel
      have hlen := dlen_any hD
      have hzr := hF.size
      have hl2m : (grownTo D.count m).good.length = n + m := by rw [grownTo_len, hnl.out]
      have HL2 := Lib.hid hl2m
      rw [hl2m] at hlen
      have hfr2 : ∀ k, wr.drew.heap.size ≤ k → ok k := fun k hk => hfr k (Nat.le_trans hzr hk)
      have HFR := Lib.hid hfr2
      clear hl2m hfr2
      by_cases hlt : n + m < NN
      · have d3 : decide (n + m < NN) = true := decide_eq_true hlt
        have d3' : decide (((n + m : Nat) : Int) < (NN : Int)) = true := decide_eq_true (by omega)
        obtain ⟨G, L, dn, Z, hDA⟩ := hD
        obtain ⟨A0, c0, cs0, hG0, hoG, hGok, hrow0⟩ := hDA.good
        rw [HL2.out] at hG0
        subst hG0
        have hDd := hDA.drew
        obtain ⟨_, _, e2, _⟩ := hDd.blk.cells
        have e2r : wr.cell? ⟨p, 2, none⟩ = some (.slice A0 (n + m) c0) := e2
        have HDD := Lib.hid hDd
        have HME := Lib.hid (show gLen (wr.cell? ⟨p, 2, none⟩) = n + m from by rw [show wr.cell? ⟨p, 2, none⟩ = some (.slice A0 (n + m) c0) from e2]; rfl)
        clear hDA hrow0 hoG hGok hDd
        go_wp2_with fail
        refine hlen.mono ?_
        rintro e w' ⟨rfl, rfl⟩
        clear hlen
        go_wp2_with fail
        refine wp_region_held_drew (S := (fun _ => True)) (by kernel_rfl) ?_ (fun hHeld => ?_)
        · exact trivial
        refine takeP (i := 0) rfl (by kernel_rfl) (by kernel_rfl) (by kernel_rfl) (fun _ _ _ h => h) (by rfl) (by assumption) (v := ?_) ?_ ?_
        rotate_left
        · intro w' hSw
          try dsimp only at hSw
          go_simp
          try with_reducible rfl
        try simp only [Act.put, setIfInBounds_toArray, set_cons_zero, set_cons_succ]
        refine takeP (i := 1) rfl (by kernel_rfl) (by kernel_rfl) (by kernel_rfl) (fun _ _ _ h => h) (by rfl) (by assumption) (v := ?_) ?_ ?_
        rotate_left
        · intro w' hSw
          try dsimp only at hSw
          go_simp
          try with_reducible rfl
        try simp only [Act.put, setIfInBounds_toArray, set_cons_zero, set_cons_succ]
        refine takeP (i := 2) rfl (by kernel_rfl) (by kernel_rfl) (by kernel_rfl) (fun _ _ _ h => h) (by rfl) (by assumption) (v := ?_) ?_ ?_
        rotate_left
        · intro w' hSw
          try dsimp only at hSw
          go_simp
          try with_reducible rfl
        try simp only [Act.put, setIfInBounds_toArray, set_cons_zero, set_cons_succ]
        refine takeP (i := 3) rfl (by kernel_rfl) (by kernel_rfl) (by kernel_rfl) (fun _ _ _ h => h) (by rfl) (by assumption) (v := ?_) ?_ ?_
        rotate_left
        · intro w' hSw
          try dsimp only at hSw
          go_simp
          try with_reducible rfl
        try simp only [Act.put, setIfInBounds_toArray, set_cons_zero, set_cons_succ]
        refine takeP (i := 5) rfl (by kernel_rfl) (by kernel_rfl) (by kernel_rfl) (fun _ _ _ h => h) (by rfl) (by assumption) (v := ?_) ?_ ?_
        rotate_left
        · intro w' hSw
          try dsimp only at hSw
          go_simp
          try with_reducible rfl
        try simp only [Act.put, setIfInBounds_toArray, set_cons_zero, set_cons_succ]
        refine carryP2 (i := 4) (j := 6) rfl rfl (by kernel_rfl) (by rfl) (by rfl) (fun K hK => ?_) (fun K hK => ?_)
        · go_simp
          refine hK.out _ _ ?_ (fun hHeld => ?_)
          · exact trivial
          clear hK K
          try simp only [Act.put, setIfInBounds_toArray, set_cons_zero, set_cons_succ]
          refine carryP (i := 6) rfl (by kernel_rfl) (by rfl) (fun K hK => ?_)
          go_simp
          refine (dempty_any (HDD.out) (HFR.out)).mono ?_
          rintro e w5 ⟨Z5, he5, hD5, hZ5, hA5⟩
          obtain ⟨AZ, cZ, hZe, _⟩ := hZ5.len
          rw [zeros_length] at hZe
          subst hZe
          subst he5
          obtain ⟨A0', c0', cs5, hG5, hoG, hGok, hrow5⟩ := hD5.good
          have HG5 := Lib.hid hG5
          clear hG5
          obtain ⟨_, _, e2, _⟩ := hD5.blk.cells
          have hz5 := hA5.size
          refine hK.out _ _ ?_ (fun hHeld => ?_)
          · exact trivial
          clear hK K
          try simp only [Act.put, setIfInBounds_toArray, set_cons_zero, set_cons_succ]
          refine carryP (i := 7) rfl (by kernel_rfl) (by rfl) (fun K hK => ?_)
          go_simp
          refine hK.out _ _ ?_ (fun hHeld => ?_)
          · exact trivial
          clear hK K
          try simp only [Act.put, setIfInBounds_toArray, set_cons_zero, set_cons_succ]
          refine carryP (i := 8) rfl (by kernel_rfl) (by rfl) (fun K hK => ?_)
          refine wp_append_any _ (.tmp 35) (.tmp 38) _ rfl base 30 ib _ 1 24 Try.underlying106 bi0 bz0 bz1 bz2 rfl (by omega) (.slice A0 (n + m) c0) (grownTo D.count m).good.length _ (by rfl) (hoG.alloc _) (w5.heap.size + 1) (some ⟨w5.heap.size, 0, none⟩) 1 1 [.slice (some AZ) (grownTo D.count m).size cZ] (by rfl) (Reads.one _ _ _) (by intro u hu; rw [List.mem_singleton.1 hu]; rfl) (by rw [HL2.out]; unfold maxLen; omega) (by rw [HL2.out]; omega) (by have : w.heap.size ≤ w5.heap.size := Nat.le_trans hzr hz5; simp; omega) ?_
          intro v8 w8 hown8 hg8 hat8
          obtain ⟨hp8, hD9, hF9⟩ := grow_step hD5 hZ5 (fun k hk => HFR.out k (Nat.le_trans hz5 hk)) (by rw [HL2.out]; show n + m + 1 ≤ D.count.limit; rw [hml.out]; omega) HG5.out hoG hrow5 hGok (by decide) hown8 hg8 hat8
          have hb8 := hp8.trans hD5.blk
          have k2 : w8.cell? ⟨p, 2, none⟩ = some (.slice A0 (n + m) c0) := blk_cell hb8 2
          have k2f : w8.frozen? ⟨p, 2, none⟩ = false := blk_frozen hb8 2
          obtain ⟨A8, c8, rfl⟩ := own_slice hown8
          refine hK.out _ _ ?_ (fun hHeld => ?_)
          · exact trivial
          clear hK K
          try simp only [Act.put, setIfInBounds_toArray, set_cons_zero, set_cons_succ]
          refine takeP (i := 9) rfl (by kernel_rfl) (by kernel_rfl) (by kernel_rfl) (fun _ _ _ h => h) (by rfl) (by assumption) (v := ?_) ?_ ?_
          rotate_left
          · intro w' hSw
            try dsimp only at hSw
            go_simp
            try with_reducible rfl
          try simp only [Act.put, setIfInBounds_toArray, set_cons_zero, set_cons_succ]
          refine takeP (i := 10) rfl (by kernel_rfl) (by kernel_rfl) (by kernel_rfl) (fun _ _ _ h => h) (by rfl) (by assumption) (v := ?_) ?_ ?_
          rotate_left
          · intro w' hSw
            try dsimp only at hSw
            go_simp
            try with_reducible rfl
          try simp only [Act.put, setIfInBounds_toArray, set_cons_zero, set_cons_succ]
          refine carryP (i := 11) rfl (by kernel_rfl) (by rfl) (fun K hK => ?_)
          go_simp
          refine hK.out _ _ ?_ (fun hHeld => ?_)
          · exact trivial
          clear hK K
          try simp only [Act.put, setIfInBounds_toArray, set_cons_zero, set_cons_succ]
          refine wpAnyH_done (by kernel_rfl) ?_ _
          have hF10 := (hF.drew.trans (Fr.of_at hA5 HDD.out.okp)).trans hF9
          rw [grownTo_succ] at hD9
          have HD9 := Lib.hid hD9
          have HK := Lib.hid (show gLen ((w8.setCell ⟨p, 2, none⟩ (.slice A8 ((grownTo D.count m).good.length + 1) c8)).cell? ⟨p, 2, none⟩) = n + m + 1 from by rw [World.cell?_setCell_same _ _ _ (show w8.cell? ⟨p, 2, none⟩ = some (.slice A0 (n + m) c0) from k2), HL2.out]; rfl)
          clear hD9 k2 k2f hb8 hp8 hown8 hg8 hat8 hF9 hrow5 hoG hGok hD5 hZ5 hA5
          generalize w8.setCell ⟨p, 2, none⟩ (.slice A8 ((grownTo D.count m).good.length + 1) c8) = w9 at HD9 HK hF10 ⊢
          go_wp2_with fail
          exact ⟨⟨m + 1, by omega, ⟨_, _, _, _, HD9.out⟩, hF10⟩, by rw [HK.out, HME.out]; omega⟩
        · go_simp
          refine (dempty_any (HDD.out) (HFR.out)).mono ?_
          rintro e w5 ⟨Z5, he5, hD5, hZ5, hA5⟩
          obtain ⟨AZ, cZ, hZe, _⟩ := hZ5.len
          rw [zeros_length] at hZe
          subst hZe
          subst he5
          obtain ⟨A0', c0', cs5, hG5, hoG, hGok, hrow5⟩ := hD5.good
          have HG5 := Lib.hid hG5
          clear hG5
          obtain ⟨_, _, e2, _⟩ := hD5.blk.cells
          have hz5 := hA5.size
          refine hK.out _ _ ?_ (fun hHeld => ?_)
          · exact trivial
          clear hK K
          try simp only [Act.put, setIfInBounds_toArray, set_cons_zero, set_cons_succ]
          refine carryP2 (i := 4) (j := 7) rfl rfl (by kernel_rfl) (by rfl) (by rfl) (fun K hK => ?_) (fun K hK => ?_)
          · go_simp
            refine hK.out _ _ ?_ (fun hHeld => ?_)
            · exact trivial
            clear hK K
            try simp only [Act.put, setIfInBounds_toArray, set_cons_zero, set_cons_succ]
            refine carryP (i := 7) rfl (by kernel_rfl) (by rfl) (fun K hK => ?_)
            go_simp
            refine hK.out _ _ ?_ (fun hHeld => ?_)
            · exact trivial
            clear hK K
            try simp only [Act.put, setIfInBounds_toArray, set_cons_zero, set_cons_succ]
            refine carryP (i := 8) rfl (by kernel_rfl) (by rfl) (fun K hK => ?_)
            refine wp_append_any _ (.tmp 35) (.tmp 38) _ rfl base 30 ib _ 1 24 Try.underlying106 bi0 bz0 bz1 bz2 rfl (by omega) (.slice A0 (n + m) c0) (grownTo D.count m).good.length _ (by rfl) (hoG.alloc _) (w5.heap.size + 1) (some ⟨w5.heap.size, 0, none⟩) 1 1 [.slice (some AZ) (grownTo D.count m).size cZ] (by rfl) (Reads.one _ _ _) (by intro u hu; rw [List.mem_singleton.1 hu]; rfl) (by rw [HL2.out]; unfold maxLen; omega) (by rw [HL2.out]; omega) (by have : w.heap.size ≤ w5.heap.size := Nat.le_trans hzr hz5; simp; omega) ?_
            intro v8 w8 hown8 hg8 hat8
            obtain ⟨hp8, hD9, hF9⟩ := grow_step hD5 hZ5 (fun k hk => HFR.out k (Nat.le_trans hz5 hk)) (by rw [HL2.out]; show n + m + 1 ≤ D.count.limit; rw [hml.out]; omega) HG5.out hoG hrow5 hGok (by decide) hown8 hg8 hat8
            have hb8 := hp8.trans hD5.blk
            have k2 : w8.cell? ⟨p, 2, none⟩ = some (.slice A0 (n + m) c0) := blk_cell hb8 2
            have k2f : w8.frozen? ⟨p, 2, none⟩ = false := blk_frozen hb8 2
            obtain ⟨A8, c8, rfl⟩ := own_slice hown8
            refine hK.out _ _ ?_ (fun hHeld => ?_)
            · exact trivial
            clear hK K
            try simp only [Act.put, setIfInBounds_toArray, set_cons_zero, set_cons_succ]
            refine takeP (i := 9) rfl (by kernel_rfl) (by kernel_rfl) (by kernel_rfl) (fun _ _ _ h => h) (by rfl) (by assumption) (v := ?_) ?_ ?_
            rotate_left
            · intro w' hSw
              try dsimp only at hSw
              go_simp
              try with_reducible rfl
            try simp only [Act.put, setIfInBounds_toArray, set_cons_zero, set_cons_succ]
            refine takeP (i := 10) rfl (by kernel_rfl) (by kernel_rfl) (by kernel_rfl) (fun _ _ _ h => h) (by rfl) (by assumption) (v := ?_) ?_ ?_
            rotate_left
            · intro w' hSw
              try dsimp only at hSw
              go_simp
              try with_reducible rfl
            try simp only [Act.put, setIfInBounds_toArray, set_cons_zero, set_cons_succ]
            refine carryP (i := 11) rfl (by kernel_rfl) (by rfl) (fun K hK => ?_)
            go_simp
            refine hK.out _ _ ?_ (fun hHeld => ?_)
            · exact trivial
            clear hK K
            try simp only [Act.put, setIfInBounds_toArray, set_cons_zero, set_cons_succ]
            refine wpAnyH_done (by kernel_rfl) ?_ _
            have hF10 := (hF.drew.trans (Fr.of_at hA5 HDD.out.okp)).trans hF9
            rw [grownTo_succ] at hD9
            have HD9 := Lib.hid hD9
            have HK := Lib.hid (show gLen ((w8.setCell ⟨p, 2, none⟩ (.slice A8 ((grownTo D.count m).good.length + 1) c8)).cell? ⟨p, 2, none⟩) = n + m + 1 from by rw [World.cell?_setCell_same _ _ _ (show w8.cell? ⟨p, 2, none⟩ = some (.slice A0 (n + m) c0) from k2), HL2.out]; rfl)
            clear hD9 k2 k2f hb8 hp8 hown8 hg8 hat8 hF9 hrow5 hoG hGok hD5 hZ5 hA5
            generalize w8.setCell ⟨p, 2, none⟩ (.slice A8 ((grownTo D.count m).good.length + 1) c8) = w9 at HD9 HK hF10 ⊢
            go_wp2_with fail
            exact ⟨⟨m + 1, by omega, ⟨_, _, _, _, HD9.out⟩, hF10⟩, by rw [HK.out, HME.out]; omega⟩
          · go_simp
            refine hK.out _ _ ?_ (fun hHeld => ?_)
            · exact trivial
            clear hK K
            try simp only [Act.put, setIfInBounds_toArray, set_cons_zero, set_cons_succ]
            refine carryP (i := 4) rfl (by kernel_rfl) (by rfl) (fun K hK => ?_)
            have e3 : (w5.alloc (.cells #[.slice (some AZ) (grownTo D.count m).size cZ] 30)).cell? ⟨p, 2, none⟩ = some (.slice A0 (n + m) c0) := (World.cell?_alloc_lt w5 _ ⟨p, 2, none⟩ hD5.blk.lt).trans e2
            go_simp
            refine hK.out _ _ ?_ (fun hHeld => ?_)
            · exact trivial
            clear hK K
            try simp only [Act.put, setIfInBounds_toArray, set_cons_zero, set_cons_succ]
            refine carryP (i := 8) rfl (by kernel_rfl) (by rfl) (fun K hK => ?_)
            refine wp_append_any _ (.tmp 35) (.tmp 38) _ rfl base 30 ib _ 1 24 Try.underlying106 bi0 bz0 bz1 bz2 rfl (by omega) (.slice A0 (n + m) c0) (grownTo D.count m).good.length _ (by rfl) (hoG.alloc _) (w5.heap.size + 1) (some ⟨w5.heap.size, 0, none⟩) 1 1 [.slice (some AZ) (grownTo D.count m).size cZ] (by rfl) (Reads.one _ _ _) (by intro u hu; rw [List.mem_singleton.1 hu]; rfl) (by rw [HL2.out]; unfold maxLen; omega) (by rw [HL2.out]; omega) (by have : w.heap.size ≤ w5.heap.size := Nat.le_trans hzr hz5; simp; omega) ?_
            intro v8 w8 hown8 hg8 hat8
            obtain ⟨hp8, hD9, hF9⟩ := grow_step hD5 hZ5 (fun k hk => HFR.out k (Nat.le_trans hz5 hk)) (by rw [HL2.out]; show n + m + 1 ≤ D.count.limit; rw [hml.out]; omega) HG5.out hoG hrow5 hGok (by decide) hown8 hg8 hat8
            have hb8 := hp8.trans hD5.blk
            have k2 : w8.cell? ⟨p, 2, none⟩ = some (.slice A0 (n + m) c0) := blk_cell hb8 2
            have k2f : w8.frozen? ⟨p, 2, none⟩ = false := blk_frozen hb8 2
            obtain ⟨A8, c8, rfl⟩ := own_slice hown8
            refine hK.out _ _ ?_ (fun hHeld => ?_)
            · exact trivial
            clear hK K
            try simp only [Act.put, setIfInBounds_toArray, set_cons_zero, set_cons_succ]
            refine takeP (i := 9) rfl (by kernel_rfl) (by kernel_rfl) (by kernel_rfl) (fun _ _ _ h => h) (by rfl) (by assumption) (v := ?_) ?_ ?_
            rotate_left
            · intro w' hSw
              try dsimp only at hSw
              go_simp
              try with_reducible rfl
            try simp only [Act.put, setIfInBounds_toArray, set_cons_zero, set_cons_succ]
            refine takeP (i := 10) rfl (by kernel_rfl) (by kernel_rfl) (by kernel_rfl) (fun _ _ _ h => h) (by rfl) (by assumption) (v := ?_) ?_ ?_
            rotate_left
            · intro w' hSw
              try dsimp only at hSw
              go_simp
              try with_reducible rfl
            try simp only [Act.put, setIfInBounds_toArray, set_cons_zero, set_cons_succ]
            refine carryP (i := 11) rfl (by kernel_rfl) (by rfl) (fun K hK => ?_)
            go_simp
            refine hK.out _ _ ?_ (fun hHeld => ?_)
            · exact trivial
            clear hK K
            try simp only [Act.put, setIfInBounds_toArray, set_cons_zero, set_cons_succ]
            refine wpAnyH_done (by kernel_rfl) ?_ _
            have hF10 := (hF.drew.trans (Fr.of_at hA5 HDD.out.okp)).trans hF9
            rw [grownTo_succ] at hD9
            have HD9 := Lib.hid hD9
            have HK := Lib.hid (show gLen ((w8.setCell ⟨p, 2, none⟩ (.slice A8 ((grownTo D.count m).good.length + 1) c8)).cell? ⟨p, 2, none⟩) = n + m + 1 from by rw [World.cell?_setCell_same _ _ _ (show w8.cell? ⟨p, 2, none⟩ = some (.slice A0 (n + m) c0) from k2), HL2.out]; rfl)
            clear hD9 k2 k2f hb8 hp8 hown8 hg8 hat8 hF9 hrow5 hoG hGok hD5 hZ5 hA5
            generalize w8.setCell ⟨p, 2, none⟩ (.slice A8 ((grownTo D.count m).good.length + 1) c8) = w9 at HD9 HK hF10 ⊢
            go_wp2_with fail
            exact ⟨⟨m + 1, by omega, ⟨_, _, _, _, HD9.out⟩, hF10⟩, by rw [HK.out, HME.out]; omega⟩
      · obtain rfl : NN = n + m := by omega
        have hend : Hid (D.count.grown (((n + m : Nat) : Int)).toNat = grownTo D.count m) := Lib.hid (by
          unfold Dk.grown grownTo
          rw [hnl.out, Int.toNat_natCast, show n + m - n = m by omega])
        go_wp2_with fail
        refine hlen.mono ?_
        rintro e w' ⟨rfl, rfl⟩
        clear hlen
        go_wp2_with fail
        go_ret
        exact .inr (.inr (.inr ⟨by rw [HN.out]; omega, by rw [HM.out]; omega, HT3.out, rfl, by rw [hend.out]; exact hD, hF⟩))
end Go.Proofs.Ythijobbhpbklmaa

namespace Go.Proofs.Ythijobbhpbklmaa
open Go.RowKit
theorem info_loose : (Try.prog.info? 129).map (fun i => (i.zero, i.size, i.bytes)) = some (some (.agg #[.int .i64 0, .slice none 0 0]), 2, 32) := by kernel_rfl
theorem Reads.two (w : World) (a b : Value) (t : TypeId) : Reads (w.alloc (.cells #[a, b] t)) (w.heap.size + 1) 2 (some ⟨w.heap.size, 0, none⟩) 1 [a, b] := by
  have hb : (w.alloc (.cells #[a, b] t)).heap[w.heap.size]? = some (.cells #[a, b] t (0, 0)) := heap_alloc_new w _
  refine ⟨rfl, fun _ => ⟨_, rfl, by simp, fun j u hu => ?_⟩⟩
  rw [Addr.add_lit, Nat.zero_add, blk_cell hb]
  simpa using hu
theorem Sl.same {w w' : World} {B : Nat} {A : Option Addr} {n c : Nat} {l : List UInt8} (h : Sl w B A n c l) (hk : ∀ ad, A = some ad → w'.heap[ad.block]? = w.heap[ad.block]?) : Sl w' B A n c l :=
  ⟨⟨h.reads.1, fun hn => by
    obtain ⟨ad, e, hb, hc⟩ := h.reads.2 hn
    exact ⟨ad, e, hb, fun j u hu => (World.cell?_of_block (by rw [block_of_add]; exact hk ad e)).trans (hc j u hu)⟩⟩, h.len, h.cap, h.nil⟩
theorem DAt.reloose {w w8 : World} {base p : Nat} {ok : Nat → Prop} {D : Dk} {G L L' Z : Value} {dn : Int} {loose' : List (Nat × List UInt8)} (h : DAt w base ok p D G L dn Z) (hp : w8.heap[p]? = w.heap[p]?)
    (hb : ∀ (g : Nat) (C : Array Value) (fr : Nat × Nat), w.heap[g]? = some (.cells C 5 fr) → w8.heap[g]? = w.heap[g]?) (hg : ∀ (g : Nat) (C : Array Value), w.heap[g]? = some (.cells C 30 (0, 0)) → w8.heap[g]? = w.heap[g]?)
    (hL : LRow w8 base ok L' loose') (hwf : ({ D with loose := loose' } : Dk).OK) : DAt (w8.setCell ⟨p, 3, none⟩ L') base ok p { D with loose := loose' } G L' dn Z := by
  have hpb : DBlk w8 p D.size D.limit G L D.fails D.calls dn Z := hp.trans h.blk
  have hne : ∀ (g : Nat) (C : Array Value) (t : TypeId) (fr : Nat × Nat), t ≠ 123 → w8.heap[g]? = some (.cells C t fr) → (w8.setCell ⟨p, 3, none⟩ L').heap[g]? = w8.heap[g]? := fun g C t fr ht hg => Below.heap_setCell _ _ _ _ (fun e => by
    subst e
    rw [hpb] at hg
    injection hg with hg
    injection hg with _ hg
    exact ht hg.symm)
  refine ⟨hpb.set3 L', h.bp, h.okp, ?_, hL.keep (fun g C hc => hne g C 129 (0, 0) (by decide) hc) (fun g C fr hc => hne g C 5 fr (by decide) hc), ?_, hwf, h.cb⟩
  · exact (h.good.keep (w' := w8) hg hb).keep (fun g C hc => hne g C 30 (0, 0) (by decide) hc) (fun g C fr hc => hne g C 5 fr (by decide) hc)
  · rcases h.zer with h0 | ⟨h1, h2⟩
    · exact .inl h0
    · exact .inr ⟨h1, h2.keep fun g C fr ho hg => ⟨(hne g C 5 fr (by decide) ((hb g C fr hg).trans hg)).trans (hb g C fr hg), ho⟩⟩
theorem write_step {w5 w8 : World} {base p : Nat} {ok : Nat → Prop} {D : Dk} {G L Z v : Value} {dn : Int} {i : Nat} {b : List UInt8} (h : DAt w5 base ok p D G L dn Z) (hv : PgAt w5 ok v b) (hfr : ∀ k, w5.heap.size ≤ k → ok k) (hi : i < D.good.length) (hbl : b.length = D.size) {cs : List Value} {c0 : Nat} {A0 : Option Addr} (hL0 : L = .slice A0 D.loose.length c0)
    (ho : w5.ownsRow base 129 2 L D.loose.length cs) (hrow : ∀ (i : Nat) (x : Nat × List UInt8), D.loose[i]? = some x → ∃ v : Value, cs[i * 2]? = some (.int .i64 (x.1 : Int)) ∧ cs[i * 2 + 1]? = some v ∧ PgAt w5 ok v x.2) (hLok : ∀ k, L.ownBlock = some k → ok k) {v8 : Value} {T : TypeId}
    (hown8 : w8.ownsRow base 129 2 v8 (D.loose.length + 1) (cs ++ [.int .i64 (i : Int), v])) (hg8 : (w5.alloc (.cells #[.int .i64 (i : Int), v] T)).grownBy w8 L.ownBlock) (hat8 : v8.ownBlock = L.ownBlock ∨ v8.ownBlock = some (w5.alloc (.cells #[.int .i64 (i : Int), v] T)).heap.size) :
    w8.heap[p]? = w5.heap[p]? ∧ DAt (w8.setCell ⟨p, 3, none⟩ v8) base ok p (D.written i b) G v8 dn Z ∧ Fr ok w5 (w8.setCell ⟨p, 3, none⟩ v8) := by
  have hst : ∀ (g : Nat) (C : Array Value) (t : TypeId) (fr : Nat × Nat), t ≠ 129 → w5.heap[g]? = some (.cells C t fr) → w8.heap[g]? = w5.heap[g]? := fun g C t fr ht hg => by
    have h1 : (w5.alloc (.cells #[.int .i64 (i : Int), v] T)).heap[g]? = w5.heap[g]? := Below.heap_alloc w5 _ g (blk_lt hg)
    refine (hg8.block g (by have := blk_lt hg; simp; omega) (fun e => ?_)).trans h1
    rcases ho.2 with ⟨hv, _⟩ | ⟨g', cap, cur, hv, _, hh, _⟩
    · rw [hv] at e; simp [Value.ownBlock] at e
    · rw [hv] at e
      have e : g = g' := by simpa [Value.ownBlock] using e
      subst e
      rw [hh] at hg
      injection hg with hg
      injection hg with _ hg
      exact ht hg.symm
  have hp8 := hst p _ _ _ (by decide) h.blk
  have hL8 : LRow w8 base ok v8 (D.loose ++ [(i, b)]) := by
    obtain ⟨A8, c8, rfl⟩ := own_slice hown8
    refine ⟨A8, c8, cs ++ [.int .i64 (i : Int), v], by simp, by simpa using hown8, fun k hk => ?_, fun j x hj => ?_⟩
    · rcases hat8 with e | e
      · exact hLok k (e ▸ hk)
      · rw [e] at hk
        injection hk with hk
        exact hfr k (by subst hk; simp)
    · have hcl : cs.length = D.loose.length * 2 := by have := ho.1; omega
      by_cases hlt : j < D.loose.length
      · rw [List.getElem?_append_left hlt] at hj
        obtain ⟨u, hu0, hu, hp⟩ := hrow j x hj
        exact ⟨u, by rw [List.getElem?_append_left (by omega)]; exact hu0, by rw [List.getElem?_append_left (by omega)]; exact hu, hp.keep fun g C fr hok hg => ⟨hst g C _ fr (by decide) hg, hok⟩⟩
      · have hl := (List.getElem?_eq_some_iff.1 hj).1
        simp at hl
        obtain rfl : j = D.loose.length := by omega
        simp at hj
        subst hj
        exact ⟨v, by rw [← hcl]; simp, by rw [← hcl, List.getElem?_append_right (by omega)]; simp, hv.keep fun g C fr hok hg => ⟨hst g C _ fr (by decide) hg, hok⟩⟩
  have hwf := h.wf
  have hwf' : (D.written i b).OK := ⟨hwf.s1, hwf.s2, hwf.s3, hwf.l1, hwf.l2, hwf.g1, hwf.g2, fun x hx => by
    rcases List.mem_append.1 hx with hx | hx
    · exact hwf.o1 x hx
    · rw [List.mem_singleton.1 hx]; exact ⟨hi, hbl⟩, hwf.f1, hwf.f2⟩
  refine ⟨hp8, h.reloose hp8 (fun g C fr hg => hst g C _ fr (by decide) hg) (fun g C hg => hst g C _ _ (by decide) hg) hL8 hwf', Fr.set ?_ h.okp 3 v8⟩
  exact (Fr.of_below ((Below.refl _ w5).alloc (Nat.le_refl _) _)).trans (Fr.of_grown hg8 (fun k hk => hLok k hk))
def WriteP (w : World) (base : Nat) (ok : Nat → Prop) (p : Nat) (D : Dk) (I : Int) (b : List UInt8) (e : Ending) (w' : World) : Prop :=
  (¬ (0 ≤ I ∧ I < D.good.length) ∧ e = .returned (.int .i64 15) ∧ w' = w) ∨ ((0 ≤ I ∧ I < D.good.length) ∧ b.length ≠ D.size ∧ e = .returned (.int .i64 1) ∧ w' = w) ∨
  ((0 ≤ I ∧ I < D.good.length) ∧ b.length = D.size ∧ D.fails = 0 ∧ e = .returned (.int .i64 20) ∧ DiskAt w' base ok p D.count ∧ Fr ok w w') ∨
  ((0 ≤ I ∧ I < D.good.length) ∧ b.length = D.size ∧ D.fails ≠ 0 ∧ e = .returned (.int .i64 0) ∧ DiskAt w' base ok p (D.count.written I.toNat b) ∧ Fr ok w w')
set_option maxRecDepth 100000 in
set_option maxHeartbeats 4000000 in
theorem dwrite_any {w : World} {base : Nat} {ok : Nat → Prop} {p : Nat} {D : Dk} (h : DiskAt w base ok p D) (hfr : ∀ k, w.heap.size ≤ k → ok k) (hbase : base ≤ w.heap.size) (hc : D.calls < 1000000000) (hlo : D.loose.length ≤ 1000000000) (I : Int) (B : Nat) (A : Option Addr) (n c : Nat) (b : List UInt8) (hb : Sl w B A n c b) (hne : ∀ ad, A = some ad → ad.block ≠ p ∧ ad.block < w.heap.size) (hnm : n ≤ 140737488355328) :
    Calls Try.prog 21 #[.pointer (some ⟨p, 0, none⟩), .int .i64 I, .slice A n c] w (WriteP w base ok p D I b) := by
  obtain ⟨ib, bi0, bz0, bz1, bz2⟩ := info_parts info_loose
  have hth := dthere_any h I
  obtain ⟨G, L, dn, Z, h⟩ := h
  have hbl := hb.len
  by_cases t0 : 0 ≤ I ∧ I < (D.good.length : Int)
  case neg =>
    have d0 : decide (0 ≤ I ∧ I < (D.good.length : Int)) = false := decide_eq_false t0
    rw [d0] at hth
    go_enter Try.func21, Try.ntmps21
    go_wp2_with (first | (go_at_call 57; refine hth.mono ?_; rintro e w' ⟨rfl, rfl⟩))
    go_ret
    exact .inl ⟨t0, rfl, rfl⟩
  have d0 : decide (0 ≤ I ∧ I < (D.good.length : Int)) = true := decide_eq_true t0
  rw [d0] at hth
  clear d0
  obtain ⟨c0, _⟩ := h.blk.cells
  obtain ⟨S, hS⟩ : ∃ S, D.size = S := ⟨_, rfl⟩
  rw [hS] at c0
  have HS := Lib.hid hS
  have HBL := Lib.hid hbl
  have HT0 := Lib.hid t0
  clear hS hbl
  by_cases t1 : n = S
  case neg =>
    have d1 : (n == S) = false := by simp [t1]
    have d1' : ((n : Int) != (S : Int)) = true := by simp; omega
    clear t0
    go_enter Try.func21, Try.ntmps21
    go_wp2_with (first | (go_at_call 57; refine hth.mono ?_; rintro e w' ⟨rfl, rfl⟩))
    go_ret
    exact .inr (.inl ⟨HT0.out, by rw [HBL.out, HS.out]; exact t1, rfl, rfl⟩)
  subst t1
  have hn512 : 512 ≤ n := by have := h.wf.s1; have := HS.out; omega
  obtain ⟨II, rfl⟩ := Int.eq_ofNat_of_zero_le t0.1
  have HII := Lib.hid (show II < D.good.length from by have := t0.2; omega)
  have hcnt := dcount_any h hc
  obtain ⟨E, hE⟩ : ∃ E, D.err = E := ⟨_, rfl⟩
  rw [hE] at hcnt
  have HE := Lib.hid hE
  have hokp := h.okp
  clear hE h t0
  by_cases t3 : D.fails = 0
  · have hE20 : E = 20 := by rw [← HE.out]; unfold Dk.err; rw [if_pos t3]
    subst hE20
    have HT3 := Lib.hid t3
    clear t3
    go_enter Try.func21, Try.ntmps21
    go_wp2_with (first | (go_at_call 57; refine hth.mono ?_; rintro e w' ⟨rfl, rfl⟩) | (go_at_call 54; refine hcnt.mono ?_; rintro e w1 ⟨rfl, hD1, hA1⟩))
    go_ret
    exact .inr (.inr (.inl ⟨HT0.out, by rw [HBL.out, HS.out], HT3.out, rfl, ⟨_, _, _, _, hD1⟩, Fr.of_at hA1 hokp⟩))
  · have hE0 : E = 0 := by rw [← HE.out]; unfold Dk.err; rw [if_neg t3]
    subst hE0
    have HT3 := Lib.hid t3
    clear t3
    go_enter Try.func21, Try.ntmps21
    go_wp2_with fail
    refine hth.mono ?_
    rintro e w' ⟨rfl, rfl⟩
    go_wp2_with fail
    refine hcnt.mono ?_
    rintro e w1 ⟨rfl, hD1, hA1⟩
    have hF1 := Fr.of_at hA1 hokp
    have hz1 := hF1.size
    have hb1 : Sl w1 B A n c b := hb.same fun ad e => hA1.block ad.block (hne ad e).2 (fun e' => (hne ad e).1 (by injection e'))
    have hfr1 : ∀ k, w1.drew.heap.size ≤ k → ok k := fun k hk => hfr k (Nat.le_trans hz1 hk)
    have HFR := Lib.hid hfr1
    have hDd := hD1.drew
    have hb1d : Sl w1.drew B A n c b := hb1.same (fun _ _ => rfl)
    obtain ⟨A0, c0', cs0, hL0, hoL, hLok, hrow0⟩ := hDd.loose
    obtain ⟨m, hm⟩ : ∃ m, D.count.loose.length = m := ⟨_, rfl⟩
    have HMM := Lib.hid hm
    have hmm : m ≤ 1000000000 := by rw [← hm]; exact hlo
    rw [hm] at hL0
    subst hL0
    obtain ⟨_, _, _, e3, _⟩ := hDd.blk.cells
    have e3r : w1.cell? ⟨p, 3, none⟩ = some (.slice A0 m c0') := e3
    have HDD := Lib.hid hDd
    clear hcnt hth hb hb1 hD1 hDd hfr1 hoL hLok hrow0 hm hlo
    go_wp2_with fail
    refine wp_region_held_drew (S := (fun _ => True)) (by kernel_rfl) ?_ (fun hHeld => ?_)
    · exact trivial
    refine takeP (i := 0) rfl (by kernel_rfl) (by kernel_rfl) (by kernel_rfl) (fun _ _ _ h => h) (by rfl) (by assumption) (v := ?_) ?_ ?_
    rotate_left
    · intro w' hSw
      try dsimp only at hSw
      go_simp
      try with_reducible rfl
    try simp only [Act.put, setIfInBounds_toArray, set_cons_zero, set_cons_succ]
    refine takeP (i := 1) rfl (by kernel_rfl) (by kernel_rfl) (by kernel_rfl) (fun _ _ _ h => h) (by rfl) (by assumption) (v := ?_) ?_ ?_
    rotate_left
    · intro w' hSw
      try dsimp only at hSw
      go_simp
      try with_reducible rfl
    try simp only [Act.put, setIfInBounds_toArray, set_cons_zero, set_cons_succ]
    refine takeP (i := 2) rfl (by kernel_rfl) (by kernel_rfl) (by kernel_rfl) (fun _ _ _ h => h) (by rfl) (by assumption) (v := ?_) ?_ ?_
    rotate_left
    · intro w' hSw
      try dsimp only at hSw
      go_simp
      try with_reducible rfl
    try simp only [Act.put, setIfInBounds_toArray, set_cons_zero, set_cons_succ]
    refine takeP (i := 3) rfl (by kernel_rfl) (by kernel_rfl) (by kernel_rfl) (fun _ _ _ h => h) (by rfl) (by assumption) (v := ?_) ?_ ?_
    rotate_left
    · intro w' hSw
      try dsimp only at hSw
      go_simp
      try with_reducible rfl
    try simp only [Act.put, setIfInBounds_toArray, set_cons_zero, set_cons_succ]
    refine takeP (i := 5) rfl (by kernel_rfl) (by kernel_rfl) (by kernel_rfl) (fun _ _ _ h => h) (by rfl) (by assumption) (v := ?_) ?_ ?_
    rotate_left
    · intro w' hSw
      try dsimp only at hSw
      go_simp
      try with_reducible rfl
    try simp only [Act.put, setIfInBounds_toArray, set_cons_zero, set_cons_succ]
    refine takeP (i := 6) rfl (by kernel_rfl) (by kernel_rfl) (by kernel_rfl) (fun _ _ _ h => h) (by rfl) (by assumption) (v := ?_) ?_ ?_
    rotate_left
    · intro w' hSw
      try dsimp only at hSw
      go_simp
      try with_reducible rfl
    try simp only [Act.put, setIfInBounds_toArray, set_cons_zero, set_cons_succ]
    refine carryP2 (i := 4) (j := 7) rfl rfl (by kernel_rfl) (by rfl) (by rfl) (fun K hK => ?_) (fun K hK => ?_)
    · go_simp
      refine hK.out _ _ ?_ (fun hHeld => ?_)
      · exact trivial
      clear hK K
      try simp only [Act.put, setIfInBounds_toArray, set_cons_zero, set_cons_succ]
      refine carryP (i := 7) rfl (by kernel_rfl) (by rfl) (fun K hK => ?_)
      go_simp
      refine (clone_any _ _ _ _ _ _ hb1d hnm).mono ?_
      rintro e w5 ⟨v5, he5, hown5, hb5⟩
      obtain ⟨Av, cv, hv5⟩ := own_slice hown5
      subst hv5
      subst he5
      have hD5 := HDD.out.below hb5
      have hz5 := hb5.size
      have hv5 : PgAt w5 ok (.slice Av n cv) b := PgAt.of_own hown5 (by omega) (fun k hk => HFR.out k hk)
      obtain ⟨A0', c0'', cs5, hL5, hoL, hLok, hrow5⟩ := hD5.loose
      have HL5 := Lib.hid hL5
      clear hL5
      obtain ⟨_, _, _, e3, _⟩ := hD5.blk.cells
      refine hK.out _ _ ?_ (fun hHeld => ?_)
      · exact trivial
      clear hK K
      try simp only [Act.put, setIfInBounds_toArray, set_cons_zero, set_cons_succ]
      refine takeP (i := 8) rfl (by kernel_rfl) (by kernel_rfl) (by kernel_rfl) (fun _ _ _ h => h) (by rfl) (by assumption) (v := ?_) ?_ ?_
      rotate_left
      · intro w' hSw
        try dsimp only at hSw
        go_simp
        try with_reducible rfl
      try simp only [Act.put, setIfInBounds_toArray, set_cons_zero, set_cons_succ]
      refine carryP (i := 9) rfl (by kernel_rfl) (by rfl) (fun K hK => ?_)
      go_simp
      refine hK.out _ _ ?_ (fun hHeld => ?_)
      · exact trivial
      clear hK K
      try simp only [Act.put, setIfInBounds_toArray, set_cons_zero, set_cons_succ]
      refine carryP (i := 10) rfl (by kernel_rfl) (by rfl) (fun K hK => ?_)
      refine wp_append_any _ (.tmp 33) (.tmp 38) _ rfl base 129 ib _ 2 32 Try.underlying107 bi0 bz0 bz1 bz2 rfl (by omega) (.slice A0 m c0') D.count.loose.length _ (by rfl) (hoL.alloc _) (w5.heap.size + 1) (some ⟨w5.heap.size, 0, none⟩) 1 1 [.int .i64 (II : Int), .slice Av n cv] (by rfl) (Reads.two _ _ _ _) (by simp [Value.oneCell']) (by rw [HMM.out]; unfold maxLen; omega) (by rw [HMM.out]; omega) (by have : w.heap.size ≤ w5.heap.size := Nat.le_trans hz1 hz5; simp; omega) ?_
      intro v8 w8 hown8 hg8 hat8
      obtain ⟨hp8, hD9, hF9⟩ := write_step hD5 hv5 (fun k hk => HFR.out k (Nat.le_trans hz5 hk)) HII.out (by rw [HBL.out]; exact HS.out.symm) HL5.out hoL hrow5 hLok hown8 hg8 hat8
      have hb8 := hp8.trans hD5.blk
      have k2 : w8.cell? ⟨p, 3, none⟩ = some (.slice A0 m c0') := blk_cell hb8 3
      have k2f : w8.frozen? ⟨p, 3, none⟩ = false := blk_frozen hb8 3
      obtain ⟨A8, c8, rfl⟩ := own_slice hown8
      refine hK.out _ _ ?_ (fun hHeld => ?_)
      · exact trivial
      clear hK K
      try simp only [Act.put, setIfInBounds_toArray, set_cons_zero, set_cons_succ]
      refine takeP (i := 11) rfl (by kernel_rfl) (by kernel_rfl) (by kernel_rfl) (fun _ _ _ h => h) (by rfl) (by assumption) (v := ?_) ?_ ?_
      rotate_left
      · intro w' hSw
        try dsimp only at hSw
        go_simp
        try with_reducible rfl
      try simp only [Act.put, setIfInBounds_toArray, set_cons_zero, set_cons_succ]
      refine takeP (i := 12) rfl (by kernel_rfl) (by kernel_rfl) (by kernel_rfl) (fun _ _ _ h => h) (by rfl) (by assumption) (v := ?_) ?_ ?_
      rotate_left
      · intro w' hSw
        try dsimp only at hSw
        go_simp
        try with_reducible rfl
      try simp only [Act.put, setIfInBounds_toArray, set_cons_zero, set_cons_succ]
      refine carryP (i := 13) rfl (by kernel_rfl) (by rfl) (fun K hK => ?_)
      go_simp
      refine hK.out _ _ ?_ (fun hHeld => ?_)
      · exact trivial
      clear hK K
      try simp only [Act.put, setIfInBounds_toArray, set_cons_zero, set_cons_succ]
      refine wpAnyH_done (by kernel_rfl) ?_ _
      have hF10 := (hF1.drew.trans (Fr.of_below hb5)).trans hF9
      have HD9 := Lib.hid (show DiskAt (w8.setCell ⟨p, 3, none⟩ (.slice A8 (D.count.loose.length + 1) c8)) base ok p (D.count.written II b) from ⟨_, _, _, _, hD9⟩)
      clear hD9 k2 k2f hb8 hp8 hown8 hg8 hat8 hF9 hrow5 hoL hLok hD5 hv5 hb5 hown5
      generalize w8.setCell ⟨p, 3, none⟩ (.slice A8 (D.count.loose.length + 1) c8) = w9 at HD9 hF10 ⊢
      go_wp2_with fail
      go_ret
      exact .inr (.inr (.inr ⟨HT0.out, by rw [HBL.out, HS.out], HT3.out, rfl, by rw [Int.toNat_natCast]; exact HD9.out, hF10⟩))
    · go_simp
      refine (clone_any _ _ _ _ _ _ hb1d hnm).mono ?_
      rintro e w5 ⟨v5, he5, hown5, hb5⟩
      obtain ⟨Av, cv, hv5⟩ := own_slice hown5
      subst hv5
      subst he5
      have hD5 := HDD.out.below hb5
      have hz5 := hb5.size
      have hv5 : PgAt w5 ok (.slice Av n cv) b := PgAt.of_own hown5 (by omega) (fun k hk => HFR.out k hk)
      obtain ⟨A0', c0'', cs5, hL5, hoL, hLok, hrow5⟩ := hD5.loose
      have HL5 := Lib.hid hL5
      clear hL5
      obtain ⟨_, _, _, e3, _⟩ := hD5.blk.cells
      refine hK.out _ _ ?_ (fun hHeld => ?_)
      · exact trivial
      clear hK K
      try simp only [Act.put, setIfInBounds_toArray, set_cons_zero, set_cons_succ]
      refine takeP (i := 8) rfl (by kernel_rfl) (by kernel_rfl) (by kernel_rfl) (fun _ _ _ h => h) (by rfl) (by assumption) (v := ?_) ?_ ?_
      rotate_left
      · intro w' hSw
        try dsimp only at hSw
        go_simp
        try with_reducible rfl
      try simp only [Act.put, setIfInBounds_toArray, set_cons_zero, set_cons_succ]
      refine carryP2 (i := 4) (j := 9) rfl rfl (by kernel_rfl) (by rfl) (by rfl) (fun K hK => ?_) (fun K hK => ?_)
      · go_simp
        refine hK.out _ _ ?_ (fun hHeld => ?_)
        · exact trivial
        clear hK K
        try simp only [Act.put, setIfInBounds_toArray, set_cons_zero, set_cons_succ]
        refine carryP (i := 9) rfl (by kernel_rfl) (by rfl) (fun K hK => ?_)
        go_simp
        refine hK.out _ _ ?_ (fun hHeld => ?_)
        · exact trivial
        clear hK K
        try simp only [Act.put, setIfInBounds_toArray, set_cons_zero, set_cons_succ]
        refine carryP (i := 10) rfl (by kernel_rfl) (by rfl) (fun K hK => ?_)
        refine wp_append_any _ (.tmp 33) (.tmp 38) _ rfl base 129 ib _ 2 32 Try.underlying107 bi0 bz0 bz1 bz2 rfl (by omega) (.slice A0 m c0') D.count.loose.length _ (by rfl) (hoL.alloc _) (w5.heap.size + 1) (some ⟨w5.heap.size, 0, none⟩) 1 1 [.int .i64 (II : Int), .slice Av n cv] (by rfl) (Reads.two _ _ _ _) (by simp [Value.oneCell']) (by rw [HMM.out]; unfold maxLen; omega) (by rw [HMM.out]; omega) (by have : w.heap.size ≤ w5.heap.size := Nat.le_trans hz1 hz5; simp; omega) ?_
        intro v8 w8 hown8 hg8 hat8
        obtain ⟨hp8, hD9, hF9⟩ := write_step hD5 hv5 (fun k hk => HFR.out k (Nat.le_trans hz5 hk)) HII.out (by rw [HBL.out]; exact HS.out.symm) HL5.out hoL hrow5 hLok hown8 hg8 hat8
        have hb8 := hp8.trans hD5.blk
        have k2 : w8.cell? ⟨p, 3, none⟩ = some (.slice A0 m c0') := blk_cell hb8 3
        have k2f : w8.frozen? ⟨p, 3, none⟩ = false := blk_frozen hb8 3
        obtain ⟨A8, c8, rfl⟩ := own_slice hown8
        refine hK.out _ _ ?_ (fun hHeld => ?_)
        · exact trivial
        clear hK K
        try simp only [Act.put, setIfInBounds_toArray, set_cons_zero, set_cons_succ]
        refine takeP (i := 11) rfl (by kernel_rfl) (by kernel_rfl) (by kernel_rfl) (fun _ _ _ h => h) (by rfl) (by assumption) (v := ?_) ?_ ?_
        rotate_left
        · intro w' hSw
          try dsimp only at hSw
          go_simp
          try with_reducible rfl
        try simp only [Act.put, setIfInBounds_toArray, set_cons_zero, set_cons_succ]
        refine takeP (i := 12) rfl (by kernel_rfl) (by kernel_rfl) (by kernel_rfl) (fun _ _ _ h => h) (by rfl) (by assumption) (v := ?_) ?_ ?_
        rotate_left
        · intro w' hSw
          try dsimp only at hSw
          go_simp
          try with_reducible rfl
        try simp only [Act.put, setIfInBounds_toArray, set_cons_zero, set_cons_succ]
        refine carryP (i := 13) rfl (by kernel_rfl) (by rfl) (fun K hK => ?_)
        go_simp
        refine hK.out _ _ ?_ (fun hHeld => ?_)
        · exact trivial
        clear hK K
        try simp only [Act.put, setIfInBounds_toArray, set_cons_zero, set_cons_succ]
        refine wpAnyH_done (by kernel_rfl) ?_ _
        have hF10 := (hF1.drew.trans (Fr.of_below hb5)).trans hF9
        have HD9 := Lib.hid (show DiskAt (w8.setCell ⟨p, 3, none⟩ (.slice A8 (D.count.loose.length + 1) c8)) base ok p (D.count.written II b) from ⟨_, _, _, _, hD9⟩)
        clear hD9 k2 k2f hb8 hp8 hown8 hg8 hat8 hF9 hrow5 hoL hLok hD5 hv5 hb5 hown5
        generalize w8.setCell ⟨p, 3, none⟩ (.slice A8 (D.count.loose.length + 1) c8) = w9 at HD9 hF10 ⊢
        go_wp2_with fail
        go_ret
        exact .inr (.inr (.inr ⟨HT0.out, by rw [HBL.out, HS.out], HT3.out, rfl, by rw [Int.toNat_natCast]; exact HD9.out, hF10⟩))
      · go_simp
        refine hK.out _ _ ?_ (fun hHeld => ?_)
        · exact trivial
        clear hK K
        try simp only [Act.put, setIfInBounds_toArray, set_cons_zero, set_cons_succ]
        refine carryP (i := 4) rfl (by kernel_rfl) (by rfl) (fun K hK => ?_)
        have q3 : (w5.alloc (.cells #[.int .i64 (II : Int), .slice Av n cv] 129)).cell? ⟨p, 3, none⟩ = some (.slice A0 m c0') := (World.cell?_alloc_lt w5 _ ⟨p, 3, none⟩ hD5.blk.lt).trans e3
        go_simp
        refine hK.out _ _ ?_ (fun hHeld => ?_)
        · exact trivial
        clear hK K
        try simp only [Act.put, setIfInBounds_toArray, set_cons_zero, set_cons_succ]
        refine carryP (i := 10) rfl (by kernel_rfl) (by rfl) (fun K hK => ?_)
        refine wp_append_any _ (.tmp 33) (.tmp 38) _ rfl base 129 ib _ 2 32 Try.underlying107 bi0 bz0 bz1 bz2 rfl (by omega) (.slice A0 m c0') D.count.loose.length _ (by rfl) (hoL.alloc _) (w5.heap.size + 1) (some ⟨w5.heap.size, 0, none⟩) 1 1 [.int .i64 (II : Int), .slice Av n cv] (by rfl) (Reads.two _ _ _ _) (by simp [Value.oneCell']) (by rw [HMM.out]; unfold maxLen; omega) (by rw [HMM.out]; omega) (by have : w.heap.size ≤ w5.heap.size := Nat.le_trans hz1 hz5; simp; omega) ?_
        intro v8 w8 hown8 hg8 hat8
        obtain ⟨hp8, hD9, hF9⟩ := write_step hD5 hv5 (fun k hk => HFR.out k (Nat.le_trans hz5 hk)) HII.out (by rw [HBL.out]; exact HS.out.symm) HL5.out hoL hrow5 hLok hown8 hg8 hat8
        have hb8 := hp8.trans hD5.blk
        have k2 : w8.cell? ⟨p, 3, none⟩ = some (.slice A0 m c0') := blk_cell hb8 3
        have k2f : w8.frozen? ⟨p, 3, none⟩ = false := blk_frozen hb8 3
        obtain ⟨A8, c8, rfl⟩ := own_slice hown8
        refine hK.out _ _ ?_ (fun hHeld => ?_)
        · exact trivial
        clear hK K
        try simp only [Act.put, setIfInBounds_toArray, set_cons_zero, set_cons_succ]
        refine takeP (i := 11) rfl (by kernel_rfl) (by kernel_rfl) (by kernel_rfl) (fun _ _ _ h => h) (by rfl) (by assumption) (v := ?_) ?_ ?_
        rotate_left
        · intro w' hSw
          try dsimp only at hSw
          go_simp
          try with_reducible rfl
        try simp only [Act.put, setIfInBounds_toArray, set_cons_zero, set_cons_succ]
        refine takeP (i := 12) rfl (by kernel_rfl) (by kernel_rfl) (by kernel_rfl) (fun _ _ _ h => h) (by rfl) (by assumption) (v := ?_) ?_ ?_
        rotate_left
        · intro w' hSw
          try dsimp only at hSw
          go_simp
          try with_reducible rfl
        try simp only [Act.put, setIfInBounds_toArray, set_cons_zero, set_cons_succ]
        refine carryP (i := 13) rfl (by kernel_rfl) (by rfl) (fun K hK => ?_)
        go_simp
        refine hK.out _ _ ?_ (fun hHeld => ?_)
        · exact trivial
        clear hK K
        try simp only [Act.put, setIfInBounds_toArray, set_cons_zero, set_cons_succ]
        refine wpAnyH_done (by kernel_rfl) ?_ _
        have hF10 := (hF1.drew.trans (Fr.of_below hb5)).trans hF9
        have HD9 := Lib.hid (show DiskAt (w8.setCell ⟨p, 3, none⟩ (.slice A8 (D.count.loose.length + 1) c8)) base ok p (D.count.written II b) from ⟨_, _, _, _, hD9⟩)
        clear hD9 k2 k2f hb8 hp8 hown8 hg8 hat8 hF9 hrow5 hoL hLok hD5 hv5 hb5 hown5
        generalize w8.setCell ⟨p, 3, none⟩ (.slice A8 (D.count.loose.length + 1) c8) = w9 at HD9 hF10 ⊢
        go_wp2_with fail
        go_ret
        exact .inr (.inr (.inr ⟨HT0.out, by rw [HBL.out, HS.out], HT3.out, rfl, by rw [Int.toNat_natCast]; exact HD9.out, hF10⟩))
end Go.Proofs.Ythijobbhpbklmaa

namespace Go.Proofs.Ythijobbhpbklmaa
open Go.RowKit
def ReadP (w : World) (base : Nat) (ok : Nat → Prop) (p : Nat) (D : Dk) (I : Int) (e : Ending) (w' : World) : Prop :=
  (¬ (0 ≤ I ∧ I < D.good.length) ∧ e = .returned (.tuple #[.slice none 0 0, .int .i64 15]) ∧ w' = w) ∨
  ((0 ≤ I ∧ I < D.good.length) ∧ D.fails = 0 ∧ e = .returned (.tuple #[.slice none 0 0, .int .i64 20]) ∧ DiskAt w' base ok p D.count ∧ Fr ok w w') ∨
  ((0 ≤ I ∧ I < D.good.length) ∧ D.fails ≠ 0 ∧ ∃ g c, e = .returned (.tuple #[.slice (some ⟨g, 0, none⟩) D.size c, .int .i64 0]) ∧ D.size ≤ c ∧ w.heap.size ≤ g ∧ MB w' g (D.look I.toNat) ∧ (D.look I.toNat).length = D.size ∧ DiskAt w' base (fun k => ok k ∧ k ≠ g) p D.count ∧ Fr ok w w')
theorem take_succ_some {α : Type} {es : List α} {k : Nat} {e : α} (h : es[k]? = some e) : es.take (k + 1) = es.take k ++ [e] := by rw [List.take_add_one, h]; rfl
theorem lookIn_len (D : Dk) (h : D.OK) (l : List (Nat × List UInt8)) (hl : ∀ x ∈ l, x ∈ D.loose) (i : Nat) (b : List UInt8) (hb : b.length = D.size) : (lookIn l i b).length = D.size := by
  induction l generalizing b with
  | nil => exact hb
  | cons x l ih =>
    refine ih (fun y hy => hl y (List.mem_cons_of_mem _ hy)) _ ?_
    split
    · exact (h.o1 x (hl x List.mem_cons_self)).2
    · exact hb
set_option maxRecDepth 100000 in
set_option maxHeartbeats 4000000 in
theorem dread_any {w : World} {base : Nat} {ok : Nat → Prop} {p : Nat} {D : Dk} (h : DiskAt w base ok p D) (hfr : ∀ k, w.heap.size ≤ k → ok k) (hbase : base ≤ w.heap.size) (hc : D.calls < 1000000000) (hlo : D.loose.length ≤ 1000000000) (I : Int) :
    Calls Try.prog 25 #[.pointer (some ⟨p, 0, none⟩), .int .i64 I] w (ReadP w base ok p D I) := by
  have hth := dthere_any h I
  obtain ⟨G, L, dn, Z, h⟩ := h
  by_cases t0 : 0 ≤ I ∧ I < (D.good.length : Int)
  case neg =>
    have d0 : decide (0 ≤ I ∧ I < (D.good.length : Int)) = false := decide_eq_false t0
    rw [d0] at hth
    go_enter Try.func25, Try.ntmps25
    go_wp2_with (first | (go_at_call 57; refine hth.mono ?_; rintro e w' ⟨rfl, rfl⟩))
    go_ret2
    exact .inl ⟨t0, rfl, rfl⟩
  have d0 : decide (0 ≤ I ∧ I < (D.good.length : Int)) = true := decide_eq_true t0
  rw [d0] at hth
  clear d0
  have HT0 := Lib.hid t0
  obtain ⟨II, rfl⟩ := Int.eq_ofNat_of_zero_le t0.1
  have hII : II < D.good.length := by have := t0.2; omega
  have HII := Lib.hid hII
  have hcnt := dcount_any h hc
  obtain ⟨E, hE⟩ : ∃ E, D.err = E := ⟨_, rfl⟩
  rw [hE] at hcnt
  have HE := Lib.hid hE
  have hokp := h.okp
  have hwf := h.wf
  clear hE h t0 hII
  by_cases t3 : D.fails = 0
  · have hE20 : E = 20 := by rw [← HE.out]; unfold Dk.err; rw [if_pos t3]
    subst hE20
    have HT3 := Lib.hid t3
    clear t3
    go_enter Try.func25, Try.ntmps25
    go_wp2_with (first | (go_at_call 57; refine hth.mono ?_; rintro e w' ⟨rfl, rfl⟩) | (go_at_call 54; refine hcnt.mono ?_; rintro e w1 ⟨rfl, hD1, hA1⟩))
    go_ret2
    exact .inr (.inl ⟨HT0.out, HT3.out, rfl, ⟨_, _, _, _, hD1⟩, Fr.of_at hA1 hokp⟩)
  · have hE0 : E = 0 := by rw [← HE.out]; unfold Dk.err; rw [if_neg t3]
    subst hE0
    have HT3 := Lib.hid t3
    clear t3
    go_enter Try.func25, Try.ntmps25
    go_wp2_with fail
    refine hth.mono ?_
    rintro e w' ⟨rfl, rfl⟩
    go_wp2_with fail
    refine hcnt.mono ?_
    rintro e w1 ⟨rfl, hD1, hA1⟩
    have hF1 := Fr.of_at hA1 hokp
    have hz1 := hF1.size
    have HD1 := Lib.hid hD1
    have HWF := Lib.hid hwf
    obtain ⟨Ag, cg, csg, hG0, hoG, _, hrowG⟩ := hD1.good
    obtain ⟨Al, cl, csl, hL0, hoL, _, hrowL⟩ := hD1.loose
    obtain ⟨n, hn⟩ : ∃ n, D.count.good.length = n := ⟨_, rfl⟩
    obtain ⟨m, hm⟩ : ∃ m, D.count.loose.length = m := ⟨_, rfl⟩
    rw [hn] at hG0 hoG
    rw [hm] at hL0 hoL
    subst hG0
    subst hL0
    have hIn : II < n := by rw [← hn]; exact HII.out
    have hmm : m ≤ 1000000000 := by rw [← hm]; exact hlo
    obtain ⟨l0, hl0⟩ : ∃ l0, D.count.good[II]? = some l0 := ⟨_, List.getElem?_eq_getElem HII.out⟩
    obtain ⟨v0, hv0, hp0⟩ := hrowG II l0 hl0
    have hl0s : l0.length = D.size := hwf.g2 l0 (List.mem_of_getElem? hl0)
    have hl0d : D.good.getD II [] = l0 := by show D.count.good.getD II [] = l0; simp [List.getD, hl0]
    have hRg := Reads.of_own hoG
    obtain ⟨adg, rfl, _, hcg⟩ := hRg.2 (by omega)
    have g0 : w1.cell? (adg.add II) = some v0 := hcg II v0 hv0
    obtain ⟨_, _, e2, e3, _⟩ := hD1.blk.cells
    have HRL := Lib.hid (fun (W : World) (hW : Below w1.heap.size w1 W) (k : Nat) (hk : k < m) => (by
      have hR := (Reads.of_own hoL).below hW
      obtain ⟨x, hx⟩ : ∃ x, D.count.loose[k]? = some x := ⟨_, List.getElem?_eq_getElem (by rw [hm]; exact hk)⟩
      obtain ⟨u, hu0, hu, hpu⟩ := hrowL k x hx
      obtain ⟨adl, ea, hb, hcl⟩ := hR.2 (by omega)
      refine ⟨adl, x, u, ea, hx, hcl _ _ hu0, ?_, hpu.keep fun g C fr ho hg => ⟨hW.block g (blk_lt hg), ho⟩⟩
      have := hcl _ _ hu
      rwa [← add_of_add] at this : ∃ (adl : Addr) (x : Nat × List UInt8) (u : Value), Al = some adl ∧ D.loose[k]? = some x ∧ W.cell? (adl.add (k * 2)) = some (.int .i64 (x.1 : Int)) ∧ W.cell? ((adl.add (k * 2)).add 1) = some u ∧ PgAt W ok u x.2))
    have HMM := Lib.hid hm
    have HL0 := Lib.hid hl0d
    have HL1 := Lib.hid hl0s
    clear hcnt hth hD1 hoG hoL hrowG hrowL hn hm hlo hl0 hl0d hl0s hv0 hcg hRg hwf
    go_wp2_with fail
    clear e2 e3 g0
    go_loopw [7, 35] (fun b i wr => ∃ (k : Nat) (v : Value), k ≤ m ∧ i = .int .i64 (k : Int) ∧ b = v ∧ PgAt wr ok v (lookIn (D.loose.take k) II l0) ∧ Below w1.heap.size w1 wr) (fun _ i _ => m - (intOf i).toNat)
    case atStart => exact ⟨0, v0, Nat.zero_le _, rfl, rfl, hp0, Below.refl _ _⟩
    case round =>
      obtain ⟨k, v, hk, rfl, rfl, hpv, hbw⟩ := hrel
      have hbs := hbw.size
      by_cases hlt : k < m
      · obtain ⟨adl, x, u, rfl, hx, ca, cb, hpu⟩ := HRL.out wr hbw k hlt
        obtain ⟨Au, cu, hue, _⟩ := hpu.len
        subst hue
        have cb : wr.cell? ⟨(adl.add (k * 2)).block, (adl.add (k * 2)).off + 1, none⟩ = some (.slice (some Au) x.2.length cu) := cb
        have hb8 : Below wr.heap.size wr (wr.alloc (.cells #[.int .i64 (x.1 : Int), .slice (some Au) x.2.length cu] 129)) := (Below.refl _ _).alloc (Nat.le_refl _) _
        have hpu2 := hpu.keep (w' := wr.alloc (.cells #[.int .i64 (x.1 : Int), .slice (some Au) x.2.length cu] 129)) (ok' := ok) fun g C fr ho hg => ⟨hb8.block g (blk_lt hg), ho⟩
        have hpv2 := hpv.keep (w' := wr.alloc (.cells #[.int .i64 (x.1 : Int), .slice (some Au) x.2.length cu] 129)) (ok' := ok) fun g C fr ho hg => ⟨hb8.block g (blk_lt hg), ho⟩
        have hbw2 := hbw.trans (hb8.mono hbs)
        have hsn : lookIn (D.loose.take (k + 1)) II l0 = if x.1 = II then x.2 else lookIn (D.loose.take k) II l0 := by rw [take_succ_some hx, lookIn_snoc]
        by_cases hxi : x.1 = II
        · have hd : ((x.1 : Int) == (II : Int)) = true := by simp [hxi]
          have hd' : (x.1 == II) = true := by simp [hxi]
          rw [if_pos hxi] at hsn
          have HSN := Lib.hid hsn
          clear hsn hxi hpv hpu
          go_wp2_with fail
          exact ⟨⟨k + 1, _, by omega, by go_num, rfl, by rw [HSN.out]; exact hpu2, hbw2⟩, by simp [intOf]; omega⟩
        · have hd : ((x.1 : Int) == (II : Int)) = false := by simp; omega
          have hd' : (x.1 == II) = false := by simp [hxi]
          rw [if_neg hxi] at hsn
          have HSN := Lib.hid hsn
          clear hsn hxi hpv hpu
          go_wp2_with fail
          exact ⟨⟨k + 1, _, by omega, by go_num, rfl, by rw [HSN.out]; exact hpv2, hbw2⟩, by simp [intOf]; omega⟩
      · obtain rfl : k = m := by omega
        have htk : D.loose.take k = D.loose := List.take_of_length_le (by have := HMM.out; show D.count.loose.length ≤ k; omega)
        rw [htk] at hpv
        have hll := lookIn_len D HWF.out D.loose (fun _ h => h) II l0 HL1.out
        obtain ⟨A, c, rfl, hsl⟩ := hpv.sl
        rw [hll] at hsl ⊢
        have hsz := HWF.out.s2
        have hsz1 := HWF.out.s1
        have HLK := Lib.hid (show lookIn D.loose II l0 = D.look II from by unfold Dk.look; rw [HL0.out])
        have HLL := Lib.hid hll
        clear htk hll hpv
        go_wp2_with fail
        refine (clone_any _ _ _ _ _ _ hsl (by omega)).mono ?_
        rintro e w9 ⟨v9, rfl, hown9, hb9⟩
        obtain ⟨g, c9, rfl, hmb, hgc, hgw⟩ := MB.of_own hown9 (by omega)
        have hD9 := HD1.out.below (hbw.trans (hb9.mono hbs))
        have hF9 := (hF1.trans (Fr.of_below hbw)).trans (Fr.of_below hb9)
        have hDo : DiskAt w9 base (fun q => ok q ∧ q ≠ g) p D.count := by
          have h0 : DiskAt wr base ok p D.count := ⟨_, _, _, _, HD1.out.below hbw⟩
          exact h0.other fun q hq ho => ⟨hb9.block q hq, ho, by omega⟩
        go_wp2_with fail
        go_ret2
        exact .inr (.inr ⟨HT0.out, HT3.out, g, c9, rfl, hgc, by omega, by rw [Int.toNat_natCast, ← HLK.out]; exact hmb, by rw [Int.toNat_natCast, ← HLK.out]; exact HLL.out, hDo, hF9⟩)
end Go.Proofs.Ythijobbhpbklmaa

namespace Go.Proofs.Ythijobbhpbklmaa
open Go.RowKit
theorem own_set1 {w : World} {base n : Nat} {e : TypeId} {v : Value} {xs : List Value} (h : w.ownsRow base e 1 v n xs) {j : Nat} (hj : j < n) (u : Value) :
    ∃ g c C, v = .slice (some ⟨g, 0, none⟩) n c ∧ w.heap[g]? = some (.cells C e (0, 0)) ∧ w.cell? ⟨g, j, none⟩ = xs[j]? ∧ w.frozen? ⟨g, j, none⟩ = false ∧ (w.setCell ⟨g, j, none⟩ u).ownsRow base e 1 v n (xs.set j u) := by
  obtain ⟨h1, h2⟩ := h
  rcases h2 with ⟨_, h0⟩ | ⟨g, cap, cur, hv, hg, hh, hnc, hcm, hsz, htk⟩
  · omega
  · refine ⟨g, cap, cur, hv, hh, ?_, blk_frozen hh j, ⟨by simpa using h1, .inr ⟨g, cap, cur.setIfInBounds j u, hv, hg, blk_set hh j u, hnc, hcm, by simpa using hsz, ?_⟩⟩⟩
    · rw [blk_cell hh, ← htk, List.getElem?_take, if_pos (by omega)]
      simp
    · rw [← htk, Array.toList_setIfInBounds, List.take_set]
theorem DAt.setgood {w : World} {base p : Nat} {ok : Nat → Prop} {D : Dk} {G L Z : Value} {dn : Int} (h : DAt w base ok p D G L dn Z) {i : Nat} (hi : i < D.good.length) {v : Value} {b : List UInt8} (hv : PgAt w ok v b) (hbl : b.length = D.size) :
    ∃ g c C, G = .slice (some ⟨g, 0, none⟩) D.good.length c ∧ g ≠ p ∧ w.heap[g]? = some (.cells C 30 (0, 0)) ∧ (∃ u, w.cell? ⟨g, i, none⟩ = some u) ∧ w.frozen? ⟨g, i, none⟩ = false ∧ DAt (w.setCell ⟨g, i, none⟩ v) base ok p { D with good := D.good.set i b } G L dn Z ∧ Fr ok w (w.setCell ⟨g, i, none⟩ v) := by
  obtain ⟨A, c, cs, e, ho, hb, hr⟩ := h.good
  obtain ⟨g, c', C, e', hg, hc, hf, ho'⟩ := own_set1 ho hi v
  have hok : ok g := hb g (by rw [e']; rfl)
  have hgp : g ≠ p := fun x => by
    have := h.blk
    unfold DBlk at this
    rw [← x, hg] at this
    injection this with this
    injection this with _ this
    exact absurd this (by decide)
  have hne : ∀ (k : Nat) (C : Array Value) (t : TypeId) (fr : Nat × Nat), t ≠ 30 → w.heap[k]? = some (.cells C t fr) → (w.setCell ⟨g, i, none⟩ v).heap[k]? = w.heap[k]? := fun k C t fr ht hk => Below.heap_setCell _ _ _ _ (fun x => by
    subst x
    rw [hg] at hk
    injection hk with hk
    injection hk with _ hk
    exact ht hk.symm)
  obtain ⟨l0, hl0⟩ : ∃ l, D.good[i]? = some l := ⟨_, List.getElem?_eq_getElem hi⟩
  obtain ⟨u0, hu0, _⟩ := hr i l0 hl0
  have hwf := h.wf
  refine ⟨g, c', C, e', hgp, hg, ⟨u0, by rw [hc]; exact hu0⟩, hf, ⟨(hne p _ _ _ (by decide) h.blk).trans h.blk, h.bp, h.okp, ⟨A, c, cs.set i v, by simpa using e, by simpa using ho', hb, fun j l hj => ?_⟩, h.loose.keep (fun k C hk => hne k C _ _ (by decide) hk) (fun k C fr hk => hne k C _ _ (by decide) hk), ?_, ⟨hwf.s1, hwf.s2, hwf.s3, hwf.l1, hwf.l2, by simpa using hwf.g1, fun r hr => ?_, by simpa using hwf.o1, hwf.f1, hwf.f2⟩, h.cb⟩, Fr.set (Fr.refl _ _) hok i v⟩
  · have hlc : cs.length = D.good.length := by have := ho.1; omega
    by_cases hij : i = j
    · subst hij
      have hj' : (D.good.set i b)[i]? = some l := hj
      rw [List.getElem?_set_self hi] at hj'
      injection hj' with hj'
      subst hj'
      exact ⟨v, List.getElem?_set_self (by omega), hv.keep fun k C fr ho hk => ⟨hne k C _ _ (by decide) hk, ho⟩⟩
    · have hj' : (D.good.set i b)[j]? = some l := hj
      rw [List.getElem?_set_ne hij] at hj'
      obtain ⟨u, hu, hp⟩ := hr j l hj'
      exact ⟨u, by rw [List.getElem?_set_ne hij]; exact hu, hp.keep fun k C fr ho hk => ⟨hne k C _ _ (by decide) hk, ho⟩⟩
  · rcases h.zer with h0 | ⟨h1, h2⟩
    · exact .inl h0
    · exact .inr ⟨h1, h2.keep fun k C fr ho hk => ⟨hne k C _ _ (by decide) hk, ho⟩⟩
  · rcases List.mem_or_eq_of_mem_set hr with hr | hr
    · exact hwf.g2 r hr
    · rw [hr]; exact hbl
theorem DAt.shut {w : World} {base p : Nat} {ok : Nat → Prop} {D : Dk} {G L Z : Value} {dn : Int} (h : DAt w base ok p D G L dn Z) : DAt (w.setCell ⟨p, 3, none⟩ (.slice none 0 0)) base ok p { D with loose := [] } G (.slice none 0 0) dn Z :=
  h.reloose rfl (fun _ _ _ _ => rfl) (fun _ _ _ => rfl) ⟨none, 0, [], rfl, World.ownsRow_nil _ _ _ _, by intro k hk; simp [Value.ownBlock] at hk, by intro i l hi; simp at hi⟩ ⟨h.wf.s1, h.wf.s2, h.wf.s3, h.wf.l1, h.wf.l2, h.wf.g1, h.wf.g2, (by intro x hx; cases hx), h.wf.f1, h.wf.f2⟩
def laidTo (D : Dk) (k : Nat) : Dk := { D with good := laid D.good (D.loose.take k) }
theorem laidTo_succ (D : Dk) {k : Nat} {x : Nat × List UInt8} (h : D.loose[k]? = some x) : ({ laidTo D k with good := (laidTo D k).good.set x.1 x.2 } : Dk) = laidTo D (k + 1) := by
  unfold laidTo
  rw [take_succ_some h, laid_snoc]
def SyncP (w : World) (base : Nat) (ok : Nat → Prop) (p : Nat) (D : Dk) (e : Ending) (w' : World) : Prop :=
  (D.fails = 0 ∧ e = .returned (.int .i64 20) ∧ DiskAt w' base ok p D.count ∧ Fr ok w w') ∨ (D.fails ≠ 0 ∧ e = .returned (.int .i64 0) ∧ DiskAt w' base ok p D.count.synced ∧ Fr ok w w')
set_option maxRecDepth 100000 in
set_option maxHeartbeats 4000000 in
theorem dsync_any {w : World} {base : Nat} {ok : Nat → Prop} {p : Nat} {D : Dk} (h : DiskAt w base ok p D) (hbase : base ≤ w.heap.size) (hc : D.calls < 1000000000) (hlo : D.loose.length ≤ 1000000000) :
    Calls Try.prog 23 #[.pointer (some ⟨p, 0, none⟩)] w (SyncP w base ok p D) := by
  obtain ⟨G, L, dn, Z, h⟩ := h
  have hcnt := dcount_any h hc
  obtain ⟨E, hE⟩ : ∃ E, D.err = E := ⟨_, rfl⟩
  rw [hE] at hcnt
  have HE := Lib.hid hE
  have hokp := h.okp
  have hl2 : D.good.length ≤ 65536 := Nat.le_trans h.wf.g1 h.wf.l2
  have hwf := h.wf
  clear hE h
  by_cases t3 : D.fails = 0
  · have hE20 : E = 20 := by rw [← HE.out]; unfold Dk.err; rw [if_pos t3]
    subst hE20
    have HT3 := Lib.hid t3
    clear t3 hwf
    go_enter Try.func23, Try.ntmps23
    go_wp2_with (first | (go_at_call 54; refine hcnt.mono ?_; rintro e w1 ⟨rfl, hD1, hA1⟩))
    go_ret
    exact .inl ⟨HT3.out, rfl, ⟨_, _, _, _, hD1⟩, Fr.of_at hA1 hokp⟩
  · have hE0 : E = 0 := by rw [← HE.out]; unfold Dk.err; rw [if_neg t3]
    subst hE0
    have HT3 := Lib.hid t3
    have HWF := Lib.hid hwf
    clear t3 hwf
    go_enter Try.func23, Try.ntmps23
    go_wp2_with fail
    refine hcnt.mono ?_
    rintro e w1 ⟨rfl, hD1, hA1⟩
    have hF1 := Fr.of_at hA1 hokp
    have hz1 := hF1.size
    obtain ⟨Al, cl, csl, hL0, hoL, _, hrowL⟩ := hD1.loose
    obtain ⟨m, hm⟩ : ∃ m, D.count.loose.length = m := ⟨_, rfl⟩
    rw [hm] at hL0
    subst hL0
    have hmm : m ≤ 1000000000 := by rw [← hm]; exact hlo
    have HMM := Lib.hid hm
    obtain ⟨_, _, e2, e3, _⟩ := hD1.blk.cells
    have HD0 := Lib.hid (show DAt w1 base ok p (laidTo D.count 0) G (.slice Al m cl) dn Z from hD1)
    clear hcnt hD1 hoL hrowL hm hlo
    go_wp2_with fail
    clear e2 e3
    go_loopw [18] (fun i wr => ∃ k : Nat, k ≤ m ∧ i = .int .i64 (k : Int) ∧ DAt wr base ok p (laidTo D.count k) G (.slice Al m cl) dn Z ∧ Fr ok w wr) (fun i _ => m - (intOf i).toNat)
    case atStart => exact ⟨0, Nat.zero_le _, rfl, HD0.out, hF1⟩
    case round =>
      obtain ⟨k, hk, rfl, hDr, hFr⟩ := hrel
      have hbs := hFr.size
      by_cases hlt : k < m
      · obtain ⟨Al', cl', csl, hL1, hoL, _, hrowL⟩ := hDr.loose
        rw [show (laidTo D.count k).loose.length = m from HMM.out] at hoL
        have hR := Reads.of_own hoL
        obtain ⟨x, hx⟩ : ∃ x, D.count.loose[k]? = some x := ⟨_, List.getElem?_eq_getElem (by rw [HMM.out]; exact hlt)⟩
        obtain ⟨u, hu0, hu, hpu⟩ := hrowL k x hx
        obtain ⟨adl, rfl, hb, hcl⟩ := hR.2 (by omega)
        have ca := hcl _ _ hu0
        have cb := hcl _ _ hu
        rw [← add_of_add] at cb
        obtain ⟨Au, cu, hue, _⟩ := hpu.len
        subst hue
        have cb : wr.cell? ⟨(adl.add (k * 2)).block, (adl.add (k * 2)).off + 1, none⟩ = some (.slice (some Au) x.2.length cu) := cb
        have hb8 : Below wr.heap.size wr (wr.alloc (.cells #[.int .i64 (x.1 : Int), .slice (some Au) x.2.length cu] 129)).drew := ((Below.refl _ _).alloc (Nat.le_refl _) _).drew
        have hD8 := hDr.below hb8
        have hpu8 := hpu.keep (w' := (wr.alloc (.cells #[.int .i64 (x.1 : Int), .slice (some Au) x.2.length cu] 129)).drew) (ok' := ok) fun g C fr ho hg => ⟨hb8.block g (blk_lt hg), ho⟩
        have hxo := HWF.out.o1 x (List.mem_of_getElem? hx)
        obtain ⟨n, hn⟩ : ∃ n, D.good.length = n := ⟨_, rfl⟩
        rw [hn] at hxo hl2
        have hgl : (laidTo D.count k).good.length = n := (laid_length _ _).trans hn
        obtain ⟨g, cg, C, hGe, hgp, hgC, ⟨u0, c0⟩, z0, hD9, hF9⟩ := hD8.setgood (i := x.1) (by rw [hgl]; exact hxo.1) hpu8 hxo.2
        rw [laidTo_succ D.count hx] at hD9
        rw [hgl] at hGe
        subst hGe
        have HN := Lib.hid hn
        have HD9 := Lib.hid hD9
        have HF9 := Lib.hid ((hFr.trans (Fr.of_below hb8)).trans hF9)
        obtain ⟨_, _, e2, _⟩ := hD8.blk.cells
        have e2r : (wr.alloc (.cells #[.int .i64 (x.1 : Int), .slice (some Au) x.2.length cu] 129)).cell? ⟨p, 2, none⟩ = some (.slice (some ⟨g, 0, none⟩) n cg) := e2
        have c0r : (wr.alloc (.cells #[.int .i64 (x.1 : Int), .slice (some Au) x.2.length cu] 129)).cell? ⟨g, x.1, none⟩ = some u0 := c0
        have z0r : (wr.alloc (.cells #[.int .i64 (x.1 : Int), .slice (some Au) x.2.length cu] 129)).frozen? ⟨g, x.1, none⟩ = false := z0
        have hx1 : x.1 < n := hxo.1
        have hgz : g ≠ wr.heap.size := fun e => by
          rw [e, show (wr.alloc (.cells #[.int .i64 (x.1 : Int), .slice (some Au) x.2.length cu] 129)).drew.heap[wr.heap.size]? = _ from heap_alloc_new wr _] at hgC
          injection hgC with hgC
          injection hgC with _ hgC
          exact absurd hgC (by decide)
        obtain ⟨X, xb⟩ := x
        have hx1 : X < n := hx1
        clear hD9 hF9 hD8 hpu8 hxo hrowL hoL hR hcl hpu hn hx hDr hb8 hgl hu hu0 hL1 e2 c0 z0 hgC
        go_wp2_with fail
        refine wp_region_held_drew (S := (fun w' => w'.cell? ⟨p, 2, none⟩ = some (.slice (some ⟨g, 0, none⟩) n cg) ∧ w'.cell? ⟨wr.heap.size, 0, none⟩ = some (.int .i64 (X : Int)) ∧ w'.cell? ⟨wr.heap.size, 1, none⟩ = some (.slice (some Au) xb.length cu))) (by kernel_rfl) ?_ (fun hHeld => ?_)
        · exact ⟨by go_simp, by go_simp, by go_simp⟩
        refine takeP (i := 0) rfl (by kernel_rfl) (by kernel_rfl) (by kernel_rfl) (fun _ _ _ h => h) (by rfl) (by assumption) (v := ?_) ?_ ?_
        rotate_left
        · intro w' hSw
          try dsimp only at hSw
          go_simp
          try with_reducible rfl
        try simp only [Act.put, setIfInBounds_toArray, set_cons_zero, set_cons_succ]
        refine takeP (i := 1) rfl (by kernel_rfl) (by kernel_rfl) (by kernel_rfl) (fun _ _ _ h => h) (by rfl) (by assumption) (v := ?_) ?_ ?_
        rotate_left
        · intro w' hSw
          try dsimp only at hSw
          go_simp
          try with_reducible rfl
        try simp only [Act.put, setIfInBounds_toArray, set_cons_zero, set_cons_succ]
        refine takeP (i := 2) rfl (by kernel_rfl) (by kernel_rfl) (by kernel_rfl) (fun _ _ _ h => h) (by rfl) (by assumption) (v := ?_) ?_ ?_
        rotate_left
        · intro w' hSw
          try dsimp only at hSw
          go_simp
          try with_reducible rfl
        try simp only [Act.put, setIfInBounds_toArray, set_cons_zero, set_cons_succ]
        refine takeP (i := 3) rfl (by kernel_rfl) (by kernel_rfl) (by kernel_rfl) (fun _ _ _ h => h) (by rfl) (by assumption) (v := ?_) ?_ ?_
        rotate_left
        · intro w' hSw
          try dsimp only at hSw
          go_simp
          try with_reducible rfl
        try simp only [Act.put, setIfInBounds_toArray, set_cons_zero, set_cons_succ]
        refine takeP (i := 4) rfl (by kernel_rfl) (by kernel_rfl) (by kernel_rfl) (fun _ _ _ h => h) (by rfl) (by assumption) (v := ?_) ?_ ?_
        rotate_left
        · intro w' hSw
          try dsimp only at hSw
          go_simp
          try with_reducible rfl
        try simp only [Act.put, setIfInBounds_toArray, set_cons_zero, set_cons_succ]
        refine takeP (i := 5) rfl (by kernel_rfl) (by kernel_rfl) (by kernel_rfl) (fun _ _ _ h => h) (by rfl) (by assumption) (v := ?_) ?_ ?_
        rotate_left
        · intro w' hSw
          try dsimp only at hSw
          go_simp
          try with_reducible rfl
        try simp only [Act.put, setIfInBounds_toArray, set_cons_zero, set_cons_succ]
        refine takeP (i := 6) rfl (by kernel_rfl) (by kernel_rfl) (by kernel_rfl) (fun _ _ _ h => h) (by rfl) (by assumption) (v := ?_) ?_ ?_
        rotate_left
        · intro w' hSw
          try dsimp only at hSw
          go_simp
          try with_reducible rfl
        try simp only [Act.put, setIfInBounds_toArray, set_cons_zero, set_cons_succ]
        refine takeP (i := 7) rfl (by kernel_rfl) (by kernel_rfl) (by kernel_rfl) (fun _ _ _ h => h) (by rfl) (by assumption) (v := ?_) ?_ ?_
        rotate_left
        · intro w' hSw
          try dsimp only at hSw
          go_simp
          try with_reducible rfl
        try simp only [Act.put, setIfInBounds_toArray, set_cons_zero, set_cons_succ]
        refine takeP (i := 8) rfl (by kernel_rfl) (by kernel_rfl) (by kernel_rfl) (fun _ _ _ h => h) (by rfl) (by assumption) (v := ?_) ?_ ?_
        rotate_left
        · intro w' hSw
          try dsimp only at hSw
          go_simp
          try with_reducible rfl
        try simp only [Act.put, setIfInBounds_toArray, set_cons_zero, set_cons_succ]
        refine carryP (i := 9) rfl (by kernel_rfl) (by rfl) (fun K hK => ?_)
        go_simp
        refine hK.out _ _ ?_ (fun hHeld => ?_)
        · exact ⟨by go_simp, by go_simp, by go_simp⟩
        clear hK K
        try simp only [Act.put, setIfInBounds_toArray, set_cons_zero, set_cons_succ]
        refine wpAnyH_done (by kernel_rfl) ?_ _
        go_wp2_with fail
        exact ⟨⟨k + 1, by omega, by go_num, HD9.out, HF9.out⟩, by simp [intOf]; omega⟩
      · obtain rfl : k = m := by omega
        have HS := Lib.hid (show ({ laidTo D.count k with loose := [] } : Dk) = D.count.synced from by
          unfold laidTo Dk.synced
          rw [List.take_of_length_le (by rw [HMM.out]; exact Nat.le_refl _)])
        have hD9 := hDr.shut
        rw [HS.out] at hD9
        have hF9 := hFr.set hDr.okp 3 (.slice none 0 0)
        have HD9 := Lib.hid hD9
        have HF9 := Lib.hid hF9
        obtain ⟨_, _, e2, e3, _⟩ := hDr.blk.cells
        have z3 := hDr.blk.free 3
        clear hD9 hF9 hDr
        go_wp2_with fail
        go_ret
        exact .inr ⟨HT3.out, rfl, ⟨_, _, _, _, HD9.out⟩, HF9.out⟩
end Go.Proofs.Ythijobbhpbklmaa
