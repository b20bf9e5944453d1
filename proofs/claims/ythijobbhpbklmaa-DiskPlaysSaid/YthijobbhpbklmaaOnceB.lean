/- Layer 3: empty. -/
import Derived.Test.YthijobbhpbklmaaOnce
import Derived.Laws.NewBlocks
namespace Go.Proofs.Ythijobbhpbklmaa
open Go.RowKit
set_option linter.unusedVariables false
set_option linter.unusedSimpArgs false

set_option maxRecDepth 100000 in
set_option maxHeartbeats 1600000 in
theorem do_first (w : World) (p pl s l ca : Nat) (G L Z : Value) (fa : Int) (hpl : pl ≠ p) (hp : w.cell? ⟨pl, 0, none⟩ = some (.pointer (some ⟨p, 0, none⟩))) (hb : DBlk w p s l G L fa ca 0 Z) (h1 : 512 ≤ s) (h2 : s ≤ 4096) :
    Calls Try.prog 73 #[.pointer (some ⟨p, 6, none⟩), .func (.func 74) #[] #[.pointer (some ⟨pl, 0, none⟩)]] w (OnceP w p s l G L fa ca) := by
  have hl := run_call_load (P := Try.prog) Try.func87 (by kernel_rfl) (by kernel_rfl) (by kernel_rfl) .u32 (by kernel_rfl) (w := w) (a := ⟨p, 6, none⟩) (x := 0) (blk_cell hb 6)
  have hnot : ∀ (x : Bool) (w : World), (Op.unary .not (.bool x)).run Try.prog w = .ok (.bool (!x)) w := fun _ _ => rfl
  have hslow := slow_any w p pl s l ca G L Z fa hpl hp hb h1 h2
  go_enter Try.func73, Try.ntmps73
  go_wp2_with (first | (go_at_call 83; refine hslow.mono ?_; rintro e w' ⟨rfl, hP⟩) | (go_at_call 82; go_in))
  go_end0
  exact ⟨rfl, hP⟩
theorem do_done (w : World) (a : Addr) (fv : Value) (h0 : w.cell? a = some (.int .u32 1)) :
    Calls Try.prog 73 #[.pointer (some a), fv] w fun e w' => e = .returned (.tuple #[]) ∧ w' = w := by
  have hl := run_call_load (P := Try.prog) Try.func87 (by kernel_rfl) (by kernel_rfl) (by kernel_rfl) .u32 (by kernel_rfl) h0
  have hnot : ∀ (x : Bool) (w : World), (Op.unary .not (.bool x)).run Try.prog w = .ok (.bool (!x)) w := fun _ _ => rfl
  go_enter Try.func73, Try.ntmps73
  go_wp2
  go_end0
  exact ⟨rfl, rfl⟩
theorem DAt.at2 {w w' : World} {base p : Nat} {ok : Nat → Prop} {D : Dk} {G L Z Z' : Value} {dn dn' : Int} (h : DAt w base ok p D G L dn Z) (hA : At p w w') (hb : DBlk w' p D.size D.limit G L D.fails D.calls dn' Z') (hz : dn' = 0 ∨ (dn' = 1 ∧ PgAt w' ok Z' (zeros D.size))) : DAt w' base ok p D G L dn' Z' := by
  have hne : ∀ (g : Nat) (C : Array Value) (t : TypeId) (fr : Nat × Nat), t ≠ 123 → w.heap[g]? = some (.cells C t fr) → w'.heap[g]? = w.heap[g]? := fun g C t fr ht hg => hA.block g (blk_lt hg) (fun e => by
    injection e with e
    subst e
    rw [h.blk] at hg
    injection hg with hg
    injection hg with _ hg
    exact ht hg.symm)
  exact ⟨hb, h.bp, h.okp, h.good.keep (fun g C hc => hne g C 30 (0, 0) (by decide) hc) (fun g C fr hc => hne g C 5 fr (by decide) hc),
    h.loose.keep (fun g C hc => hne g C 129 (0, 0) (by decide) hc) (fun g C fr hc => hne g C 5 fr (by decide) hc), hz, h.wf, h.cb⟩
def EmptyP (w : World) (base : Nat) (ok : Nat → Prop) (p : Nat) (D : Dk) (G L : Value) (e : Ending) (w' : World) : Prop :=
  ∃ Z', e = .returned Z' ∧ DAt w' base ok p D G L 1 Z' ∧ PgAt w' ok Z' (zeros D.size) ∧ At p w w'
set_option maxRecDepth 100000 in
set_option maxHeartbeats 1600000 in
theorem dempty_any {w : World} {base : Nat} {ok : Nat → Prop} {p : Nat} {D : Dk} {G L Z : Value} {dn : Int} (h : DAt w base ok p D G L dn Z) (hfr : ∀ k, w.heap.size ≤ k → ok k) :
    Calls Try.prog 55 #[.pointer (some ⟨p, 0, none⟩)] w (EmptyP w base ok p D G L) := by
  have hmf : ∀ (fn : Fn) (first cap : Array Value) (w : World), (Instr.makeFunc fn first cap).run Try.prog w = .ok (.func fn first cap) w := fun _ _ _ _ => rfl
  have hb1 : Below w.heap.size w (w.alloc (.cells #[.pointer (some ⟨p, 0, none⟩)] 23)) := (Below.refl _ _).alloc (Nat.le_refl _) _
  have hD1 := h.below hb1
  have hplc : (w.alloc (.cells #[.pointer (some ⟨p, 0, none⟩)] 23)).cell? ⟨w.heap.size, 0, none⟩ = some (.pointer (some ⟨p, 0, none⟩)) := by simp
  have hpl : w.heap.size ≠ p := by have := h.blk.lt; omega
  have hpl2 : p < w.heap.size := h.blk.lt
  have hA1 : At p w (w.alloc (.cells #[.pointer (some ⟨p, 0, none⟩)] 23)) := At.of_below hb1
  have hs1 := h.wf.s1
  have hs2 := h.wf.s2
  obtain ⟨q, hq⟩ : ∃ q, w.heap.size = q := ⟨_, rfl⟩
  rw [hq] at hplc hpl hpl2 hfr
  have HFR := Lib.hid hfr
  have HQ := Lib.hid hq
  rcases h.zer with h0 | ⟨h1, hZ⟩
  · subst h0
    have hbk := hD1.blk
    have HD1 := Lib.hid hD1
    have HA1 := Lib.hid hA1
    clear hD1 hA1 hb1 h hfr
    go_enter Try.func55, Try.ntmps55
    go_wp2_with fail
    generalize w.alloc (.cells #[.pointer (some ⟨p, 0, none⟩)] 23) = W at hplc hbk HD1 HA1 ⊢
    refine (do_first W p q _ _ _ _ _ _ _ hpl hplc hbk hs1 hs2).mono ?_
    rintro e w2 ⟨rfl, g, hblk2, hrow2, hg2, hA2⟩
    have hplc2 : w2.cell? ⟨q, 0, none⟩ = some (.pointer (some ⟨p, 0, none⟩)) := (World.cell?_of_block (hA2.block q (World.block_lt_of_cell? _ _ hplc) (fun e => hpl (by injection e with e)))).trans hplc
    obtain ⟨_, _, _, _, _, _, _, _, _, c9⟩ := hblk2.cells
    have hZ2 : PgAt w2 ok (.slice (some ⟨g, 0, none⟩) D.size D.size) (zeros D.size) := PgAt.of_row hrow2 (zeros_length _) (HFR.out g (by have := HA1.out.size; have := HQ.out; omega))
    have hD2 := HD1.out.at2 hA2 hblk2 (.inr ⟨rfl, hZ2⟩)
    have hA := HA1.out.trans hA2
    have HH := Lib.hid (show EmptyP w base ok p D G L (.returned (.slice (some ⟨g, 0, none⟩) D.size D.size)) w2 from ⟨_, rfl, hD2, hZ2, hA⟩)
    clear hD2 hZ2 hA hblk2 hrow2 hA2 hplc hbk
    go_wp2_with fail
    go_ret
    exact HH.out
  · subst h1
    obtain ⟨_, _, _, _, _, _, c6, _, _, c9⟩ := hD1.blk.cells
    have hZ1 := hZ.keep (w' := w.alloc (.cells #[.pointer (some ⟨p, 0, none⟩)] 23)) (ok' := ok) fun g C fr ho hg => ⟨hb1.block g (blk_lt hg), ho⟩
    have HH := Lib.hid (show EmptyP w base ok p D G L (.returned Z) (w.alloc (.cells #[.pointer (some ⟨p, 0, none⟩)] 23)) from ⟨_, rfl, hD1, hZ1, hA1⟩)
    clear hD1 hA1 hb1 h hfr hZ hZ1
    go_enter Try.func55, Try.ntmps55
    go_wp2_with fail
    refine (do_done _ _ _ c6).mono ?_
    rintro e w2 ⟨rfl, rfl⟩
    go_wp2_with fail
    go_ret
    exact HH.out
end Go.Proofs.Ythijobbhpbklmaa
