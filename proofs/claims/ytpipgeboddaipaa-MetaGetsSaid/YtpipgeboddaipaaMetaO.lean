/- Layer 7's statements: of. -/
import Derived.Test.YtpipgeboddaipaaMetaQ
import Derived.Deep.RegionHeld3
import Derived.Deep.DrawnRows
namespace Go.Proofs.Ytpipgeboddaipaa
open Go.RowKit
set_option linter.unusedVariables false
set_option linter.unusedSimpArgs false
attribute [local go_sem ↓] Go.wp_at_zero Go.wp_at_succ

theorem far_cell {w : World} {p q : Addr} {u v : Value} (h : w.cell? q = some v) (hne : p.block ≠ q.block) : (w.setCell p u).cell? q = some v :=
  (World.cell?_setCell_other w p q u (fun e => hne (by rw [e]))).trans h
theorem far4 {w : World} {g p : Nat} {o : Obj} (h : w.heap[g]? = some o) (hp : g ≠ p) (a b c d : Value) :
    ((((w.setCell ⟨p, 0, none⟩ a).setCell ⟨p, 1, none⟩ b).setCell ⟨p, 2, none⟩ c).setCell ⟨p, 3, none⟩ d).heap[g]? = some o := by
  have f : ∀ (w : World) (i : Nat) (u : Value), w.heap[g]? = some o → (w.setCell ⟨p, i, none⟩ u).heap[g]? = some o := fun w i u h => (Below.heap_setCell w ⟨p, i, none⟩ u g hp).trans h
  exact f _ _ _ (f _ _ _ (f _ _ _ (f _ _ _ h)))
theorem drew_cell {w : World} {q : Addr} {v : Value} (h : w.cell? q = some v) : w.drew.cell? q = some v := h

set_option maxHeartbeats 1000000 in
theorem of_any (w : World) (t e m f : Nat) :
    Calls Try.prog 11 #[.agg #[.int .u64 (t : Int), .int .u32 (e : Int), .int .u32 (m : Int), .int .u32 (f : Int)]] w fun r w' => r = .returned (.tuple #[.agg #[.int .u64 (t : Int), .int .u32 (e : Int), .int .u32 (m : Int), .int .u32 (f : Int)], .agg #[.int .u64 (t : Int), .int .u32 (e : Int), .int .u32 (m : Int), .int .u32 (f : Int)]]) ∧ Below w.heap.size w w' := by
  have hb0 : Below w.heap.size w (w.alloc (.cells #[.int .u64 (t : Int), .int .u32 (e : Int), .int .u32 (m : Int), .int .u32 (f : Int)] 25)) := (Below.refl _ _).alloc (Nat.le_refl _) _
  have hq0 := heap_alloc_new w (.cells #[.int .u64 (t : Int), .int .u32 (e : Int), .int .u32 (m : Int), .int .u32 (f : Int)] 25)
  go_enter Try.func11, Try.ntmps11
  go_wp2
  have hb1 := hb0.alloc hb0.size (.cells #[.int .u64 0, .int .u32 0, .int .u32 0, .int .u32 0] 29)
  have hq1 := blk_alloc hq0 (.cells #[.int .u64 0, .int .u32 0, .int .u32 0, .int .u32 0] 29)
  have hr1 := heap_alloc_new (w.alloc (.cells #[.int .u64 (t : Int), .int .u32 (e : Int), .int .u32 (m : Int), .int .u32 (f : Int)] 25)) (.cells #[.int .u64 0, .int .u32 0, .int .u32 0, .int .u32 0] 29)
  have hb2 := hb1.alloc hb1.size (.cells #[.int .u64 0, .int .u32 0, .int .u32 0, .int .u32 0] 30)
  have hq2 := blk_alloc hq1 (.cells #[.int .u64 0, .int .u32 0, .int .u32 0, .int .u32 0] 30)
  have hr2 := blk_alloc hr1 (.cells #[.int .u64 0, .int .u32 0, .int .u32 0, .int .u32 0] 30)
  have hs2 := heap_alloc_new ((w.alloc (.cells #[.int .u64 (t : Int), .int .u32 (e : Int), .int .u32 (m : Int), .int .u32 (f : Int)] 25)).alloc (.cells #[.int .u64 0, .int .u32 0, .int .u32 0, .int .u32 0] 29)) (.cells #[.int .u64 0, .int .u32 0, .int .u32 0, .int .u32 0] 30)
  simp only [World.size_alloc] at hr2 hs2
  generalize ((w.alloc (.cells #[.int .u64 (t : Int), .int .u32 (e : Int), .int .u32 (m : Int), .int .u32 (f : Int)] 25)).alloc (.cells #[.int .u64 0, .int .u32 0, .int .u32 0, .int .u32 0] 29)).alloc (.cells #[.int .u64 0, .int .u32 0, .int .u32 0, .int .u32 0] 30) = W at hb2 hq2 hr2 hs2 ⊢
  obtain ⟨⟨a0, a1, a2, a3⟩, f0, f1, f2, f3⟩ := cell4 hq2
  obtain ⟨⟨b0, b1, b2, b3⟩, g0, g1, g2, g3⟩ := cell4 hr2
  obtain ⟨⟨c0, c1, c2, c3⟩, h0, h1, h2, h3⟩ := cell4 hs2
  clear hb0 hb1 hq0 hq1 hr1
  go_region_held3 (fun w' => w'.cell? ⟨w.heap.size, 0, none⟩ = some (.int .u64 (t : Int)) ∧ w'.cell? ⟨w.heap.size, 1, none⟩ = some (.int .u32 (e : Int)) ∧ w'.cell? ⟨w.heap.size, 2, none⟩ = some (.int .u32 (m : Int)) ∧ w'.cell? ⟨w.heap.size, 3, none⟩ = some (.int .u32 (f : Int))) (refine ⟨?_, ?_, ?_, ?_⟩ <;> (try with_reducible refine drew_cell ?_) <;> (repeat (with_reducible refine far_cell ?_ (by first | (simp; done) | (simp; omega)))) <;> with_reducible assumption) (fail)
  have x1 := set4 hr2 (.int .u64 (t : Int)) (.int .u32 (e : Int)) (.int .u32 (m : Int)) (.int .u32 (f : Int))
  have x2 := far4 x1 (p := w.heap.size + 1 + 1) (by omega) (.int .u64 (t : Int)) (.int .u32 (e : Int)) (.int .u32 (m : Int)) (.int .u32 (f : Int))
  have y1 := far4 hs2 (p := w.heap.size + 1) (by omega) (.int .u64 (t : Int)) (.int .u32 (e : Int)) (.int .u32 (m : Int)) (.int .u32 (f : Int))
  have y2 := set4 y1 (.int .u64 (t : Int)) (.int .u32 (e : Int)) (.int .u32 (m : Int)) (.int .u32 (f : Int))
  obtain ⟨⟨s0, s1, s2, s3⟩, _⟩ := cell4 x2
  obtain ⟨⟨v0, v1, v2, v3⟩, _⟩ := cell4 y2
  have hbz := (below4 (below4 hb2 (show w.heap.size ≤ w.heap.size + 1 by omega) (.int .u64 (t : Int)) (.int .u32 (e : Int)) (.int .u32 (m : Int)) (.int .u32 (f : Int))) (show w.heap.size ≤ w.heap.size + 1 + 1 by omega) (.int .u64 (t : Int)) (.int .u32 (e : Int)) (.int .u32 (m : Int)) (.int .u32 (f : Int))).drew
  clear hq2 hr2 hs2 hb2 a0 a1 a2 a3 f0 f1 f2 f3 b0 b1 b2 b3 g0 g1 g2 g3 c0 c1 c2 c3 h0 h1 h2 h3 x1 x2 y1 y2
  go_wp2
  exact bodyPost_ret (v := .tuple #[.agg #[.int .u64 (t : Int), .int .u32 (e : Int), .int .u32 (m : Int), .int .u32 (f : Int)], .agg #[.int .u64 (t : Int), .int .u32 (e : Int), .int .u32 (m : Int), .int .u32 (f : Int)]]) (by simp [results, Try.results11, go_sem, s0, s1, s2, s3, v0, v1, v2, v3]) rfl ⟨rfl, hbz⟩

end Go.Proofs.Ytpipgeboddaipaa
