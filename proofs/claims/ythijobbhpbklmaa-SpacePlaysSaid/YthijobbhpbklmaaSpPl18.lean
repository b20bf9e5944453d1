/- SSortE -/
import Derived.Test.YthijobbhpbklmaaSpPl3
import Derived.Sort.WalkD2
/- The library's sort at pages: turned by gen_sort.py from the kit's worked walks at int (WalkD1, WalkD2). -/
namespace Go.Proofs.Ythijobbhpbklmaa
open Go.RowKit Go.Sort
set_option linter.unusedVariables false
set_option linter.unusedSimpArgs false
set_option maxRecDepth 100000 in
set_option maxHeartbeats 2000000 in
theorem holds_aside {w : World} {blk off sb so n t : Nat} {d : Array Nat} (h : Holds encQ w blk off d) (hne : sb ≠ blk) : Holds encQ (putRow (Value.int .i64) (Sort.ahead w n) sb so (one t)) blk off d := fun j hj =>
  ⟨by rw [cell?_putRow_other _ _ _ _ _ _ (Or.inl (Ne.symm hne))]; exact (h j hj).1, by rw [frozen?_putRow]; exact (h j hj).2⟩
set_option maxRecDepth 100000 in
set_option maxHeartbeats 2000000 in
theorem order2_page (d : Array Nat) (len : Nat) (hlen : d.size = len) (blk off cap a b sb so s : Nat) (w : World) (hH : Holds encQ w blk off d) (ha : a < d.size) (hb : b < d.size)
    (hS : Holds (Value.int .i64) w sb so (one s)) (hs : s < 2 ^ 62) :
    Calls Try.prog 129 #[.slice (some ⟨blk, off, none⟩) len cap, .int .i64 a, .int .i64 b, .pointer (some ⟨sb, so, none⟩)] w fun e w' =>
      e = .returned (.tuple #[.int .i64 (order2 ltP d a b s).1, .int .i64 (order2 ltP d a b s).2.1]) ∧ ∃ n, w' = putRow (Value.int .i64) (Sort.ahead w n) sb so (one (order2 ltP d a b s).2.2) := by
  subst hlen
  replace hs : s < 4611686018427387904 := by omega
  have ca := (hH a ha).1
  have cb := (hH b hb).1
  obtain ⟨cs, fs⟩ := one_cell hS
  have ea : d[a]! = d[a] := getElem!_pos d a ha
  have eb : d[b]! = d[b] := getElem!_pos d b hb
  go_enter Try.func129, Try.ntmps129
  go_wp2
  go_region_with (go_at_call 103; refine (less_page _ _ _).mono ?_; rintro e w' ⟨rfl, rfl⟩)
  all_goals (try go_wp2)
  all_goals first
    | (have hlt : ltP d[b] d[a] = true := by assumption
       have e2 : order2 ltP d a b s = (b, a, s + 1) := by simp [order2, ea, eb, hlt]
       go_ret2
       rw [e2]
       refine ⟨rfl, 1, ?_⟩
       rw [putRow_ahead, ← one_set hS (s + 1)]
       simp [drew_eq_ahead])
    | (have hlt : ltP d[b] d[a] = false := by assumption
       have e2 : order2 ltP d a b s = (a, b, s) := by simp [order2, ea, eb, hlt]
       go_ret2
       rw [e2]
       refine ⟨rfl, 1, ?_⟩
       rw [putRow_ahead, putRow_self _ _ _ _ _ hS]
       rfl)
set_option maxRecDepth 100000 in
set_option maxHeartbeats 2000000 in
theorem order2_lt (d : Array Nat) {a b n : Nat} (s : Nat) (ha : a < n) (hb : b < n) : (order2 ltP d a b s).1 < n ∧ (order2 ltP d a b s).2.1 < n := by
  have := order2_mem ltP d a b s
  omega
set_option maxRecDepth 100000 in
set_option maxHeartbeats 2000000 in
theorem order2_swaps (d : Array Nat) (a b s : Nat) : (order2 ltP d a b s).2.2 ≤ s + 1 := by
  unfold order2
  split <;> simp
set_option maxRecDepth 100000 in
set_option maxHeartbeats 2000000 in
theorem median_page (d : Array Nat) (len : Nat) (hlen : d.size = len) (blk off cap a b c sb so s : Nat) (w : World) (hH : Holds encQ w blk off d) (ha : a < d.size) (hb : b < d.size) (hc : c < d.size) (hne : sb ≠ blk)
    (hS : Holds (Value.int .i64) w sb so (one s)) (hs : s + 3 < 2 ^ 62) :
    Calls Try.prog 120 #[.slice (some ⟨blk, off, none⟩) len cap, .int .i64 a, .int .i64 b, .int .i64 c, .pointer (some ⟨sb, so, none⟩)] w fun e w' =>
      e = .returned (.int .i64 (median ltP d a b c s).1) ∧ ∃ n, w' = putRow (Value.int .i64) (Sort.ahead w n) sb so (one (median ltP d a b c s).2) := by
  subst hlen
  have l1 := order2_lt d s ha hb
  have s1 := order2_swaps d a b s
  have l2 := order2_lt d (order2 ltP d a b s).2.2 l1.2 hc
  have s2 := order2_swaps d (order2 ltP d a b s).2.1 c (order2 ltP d a b s).2.2
  go_enter Try.func120, Try.ntmps120
  go_wp2_with (go_at_call_of 129 (Value.int .i64 (b : Int)); refine (order2_page d _ rfl blk off cap a b sb so s w hH ha hb hS (by omega)).mono ?_; rintro e w' ⟨rfl, n1, rfl⟩)
  go_wp2_with (go_at_call_of 129 (Value.int .i64 (c : Int)); refine (order2_page d _ rfl blk off cap (order2 ltP d a b s).2.1 c sb so (order2 ltP d a b s).2.2 _ (holds_aside hH hne) l1.2 hc (holds_one hS) (by omega)).mono ?_; rintro e w' ⟨rfl, n2, rfl⟩)
  go_wp2_with (go_at_call_of 129 (Value.int .i64 ((order2 ltP d a b s).1 : Int)); refine (order2_page d _ rfl blk off cap (order2 ltP d a b s).1 (order2 ltP d (order2 ltP d a b s).2.1 c (order2 ltP d a b s).2.2).1 sb so (order2 ltP d (order2 ltP d a b s).2.1 c (order2 ltP d a b s).2.2).2.2 _
    (holds_aside (holds_aside hH hne) hne) l1.1 l2.1 (holds_one (holds_one hS)) (by omega)).mono ?_; rintro e w' ⟨rfl, n3, rfl⟩)
  go_ret
  refine ⟨rfl, n1 + (n2 + n3), ?_⟩
  rw [one_one, one_one]
  rfl
set_option maxRecDepth 100000 in
set_option maxHeartbeats 2000000 in
theorem medianAdjacent_page (d : Array Nat) (len : Nat) (hlen : d.size = len) (blk off cap a sb so s : Nat) (w : World) (hH : Holds encQ w blk off d) (ha0 : 1 ≤ a) (ha : a + 1 < d.size) (hsz : d.size < 2 ^ 62) (hne : sb ≠ blk)
    (hS : Holds (Value.int .i64) w sb so (one s)) (hs : s + 3 < 2 ^ 62) :
    Calls Try.prog 119 #[.slice (some ⟨blk, off, none⟩) len cap, .int .i64 a, .pointer (some ⟨sb, so, none⟩)] w fun e w' =>
      e = .returned (.int .i64 (medianAdjacent ltP d a s).1) ∧ ∃ n, w' = putRow (Value.int .i64) (Sort.ahead w n) sb so (one (medianAdjacent ltP d a s).2) := by
  subst hlen
  replace hsz : d.size < 4611686018427387904 := by omega
  go_enter Try.func119, Try.ntmps119
  go_wp2_with (go_at_call 120; rw [show ((a : Int) - 1) = ((a - 1 : Nat) : Int) by omega, show ((a : Int) + 1) = ((a + 1 : Nat) : Int) by omega]; refine (median_page d _ rfl blk off cap (a - 1) a (a + 1) sb so s w hH (by omega) (by omega) ha hne hS hs).mono ?_; rintro e w' ⟨rfl, n1, rfl⟩)
  go_ret
  exact ⟨rfl, n1, rfl⟩
end Go.Proofs.Ythijobbhpbklmaa
