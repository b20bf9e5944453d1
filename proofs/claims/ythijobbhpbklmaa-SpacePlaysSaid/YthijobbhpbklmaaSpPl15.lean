/- SRfN; SRfM -/
import Derived.Test.YthijobbhpbklmaaSpPl14
import Derived.Test.YthijobbhpbklmaaSpPl10
import Derived.Deep.OwnRows
/- SpacePlays: the reference's New, by hand. -/
namespace Go.Proofs.Ythijobbhpbklmaa
open Go.RowKit
set_option linter.unusedVariables false
set_option linter.unusedSimpArgs false

theorem rnew_zero (w : World) (B : Nat) (A : Option Addr) (n c : Nat) (rs : List FRc) (h : Recs w B A n rs) (hBw : B ≤ w.heap.size) (hok : FROk rs) (hn : n ≤ 1000000) (hpl : ∀ r ∈ rs, r.2.length ≤ 1000000) (htot : (rpAll rs).length ≤ 1000000000) (e l o : Nat) (he : e < 4294967296) (hl : l < 4294967296) (hno : ¬ SNewOk e l rs) :
    Calls Try.prog 41 #[.int .i64 (e : Int), .int .i64 (l : Int), .slice A n c, .int .u64 (o : Int)] w fun x w' => x = .returned (.tuple #[.agg #[.slice none 0 0, .slice none 0 0, .int .i64 0], .int .i64 1]) ∧ Below w.heap.size w w' := by
  have hret : ∀ W, Below (w.heap.size + 1) (w.alloc (.cells #[.slice none 0 0, .slice none 0 0, .int .i64 0] 77)) W → W.heap[w.heap.size]? = some (.cells #[.slice none 0 0, .slice none 0 0, .int .i64 0] 77 (0, 0)) ∧ Below w.heap.size w W := fun W hW => ⟨blk_below (heap_alloc_new w _) hW (by omega), ((Below.refl _ w).alloc (Nat.le_refl _) _).trans (hW.mono (by omega))⟩
  by_cases h1 : e < 2
  · have d1 : decide (e < 2) = true := decide_eq_true h1
    have d1' : decide ((e : Int) < 2) = true := decide_eq_true (by omega)
    go_enter Try.func41, Try.ntmps41
    go_wp2_with fail
    refine bodyPost_ret (results_ct rfl _ _ w.heap.size _ _ (0, 0) _ rfl (heap_alloc_new w _) Try.underlying77 rfl (by kernel_rfl)) rfl ?_
    exact ⟨rfl, (Below.refl _ _).alloc (Nat.le_refl _) _⟩
  have d1 : decide (e < 2) = false := decide_eq_false h1
  have d1' : decide ((e : Int) < 2) = false := decide_eq_false (by omega)
  by_cases h2 : l < e
  · have d2 : decide (l < e) = true := decide_eq_true h2
    have d2' : decide ((l : Int) < (e : Int)) = true := decide_eq_true (by omega)
    go_enter Try.func41, Try.ntmps41
    go_wp2_with fail
    refine bodyPost_ret (results_ct rfl _ _ w.heap.size _ _ (0, 0) _ rfl (heap_alloc_new w _) Try.underlying77 rfl (by kernel_rfl)) rfl ?_
    exact ⟨rfl, (Below.refl _ _).alloc (Nat.le_refl _) _⟩
  have d2 : decide (l < e) = false := decide_eq_false h2
  have d2' : decide ((l : Int) < (e : Int)) = false := decide_eq_false (by omega)
  by_cases h3 : 65536 < l
  · have d3 : decide (65536 < l) = true := decide_eq_true h3
    have d3' : decide ((65536 : Int) < (l : Int)) = true := decide_eq_true (by omega)
    go_enter Try.func41, Try.ntmps41
    go_wp2_with fail
    refine bodyPost_ret (results_ct rfl _ _ w.heap.size _ _ (0, 0) _ rfl (heap_alloc_new w _) Try.underlying77 rfl (by kernel_rfl)) rfl ?_
    exact ⟨rfl, (Below.refl _ _).alloc (Nat.le_refl _) _⟩
  have d3 : decide (65536 < l) = false := decide_eq_false h3
  have d3' : decide ((65536 : Int) < (l : Int)) = false := decide_eq_false (by omega)
  have hnr : ¬ SpRight rs e := fun hh => hno ⟨by omega, by omega, by omega, hh⟩
  have hR := h.below (w' := w.alloc (.cells #[.slice none 0 0, .slice none 0 0, .int .i64 0] 77)) (((Below.refl _ w).alloc (Nat.le_refl _) _).mono hBw)
  have hcall := rright_any _ B A n c rs hR (by simp; omega) hok hn hpl htot e he
  have HC := Lib.hid hcall
  have HN := Lib.hid hnr
  clear hcall hR hnr hno h
  go_enter Try.func41, Try.ntmps41
  go_wp2_with fail
  refine HC.out.mono ?_
  rintro x w2 ⟨b, rfl, hb, hbw⟩
  obtain rfl : b = false := by
    cases b with
    | false => rfl
    | true => exact absurd (hb.1 rfl) HN.out
  obtain ⟨x0, hB⟩ := hret w2 (by simpa using hbw)
  have q0 := blk_cell x0 0
  have q1 := blk_cell x0 1
  have q2 := blk_cell x0 2
  have f0 := blk_frozen x0 0
  have f1 := blk_frozen x0 1
  have f2 := blk_frozen x0 2
  have X1 := Lib.hid (blk_set3 x0 (.slice none 0 0) (.slice none 0 0) (.int .i64 0))
  have XB := Lib.hid (below_set3 hB (Nat.le_refl _) (.slice none 0 0) (.slice none 0 0) (.int .i64 0))
  clear hb hbw x0 hB hret
  go_wp2_with fail
  refine bodyPost_ret (results_ct rfl _ _ w.heap.size _ _ (0, 0) _ rfl X1.out Try.underlying77 rfl (by kernel_rfl)) rfl ?_
  exact ⟨rfl, XB.out⟩
/-- A whole block of whole numbers. -/
def Arr (W : World) (t : TypeId) (k : IntKind) (g : Nat) (l : List Int) : Prop := W.heap[g]? = some (.cells (l.map (Value.int k)).toArray t (0, 0))
section
variable {W W' : World} {t : TypeId} {k : IntKind} {g : Nat} {l : List Int}
theorem Arr.cell (h : Arr W t k g l) {i : Nat} {z : Int} (hz : l[i]? = some z) : W.cell? ⟨g, i, none⟩ = some (.int k z) := by
  rw [blk_cell h i]
  simp [hz]
theorem Arr.free (h : Arr W t k g l) (i : Nat) : W.frozen? ⟨g, i, none⟩ = false := blk_frozen h i
theorem Arr.set (h : Arr W t k g l) (i : Nat) (z : Int) : Arr (W.setCell ⟨g, i, none⟩ (.int k z)) t k g (l.set i z) := by
  unfold Arr
  rw [blk_set h i]
  simp [List.map_set]
theorem Arr.far (h : Arr W t k g l) {p : Addr} (hp : g ≠ p.block) (u : Value) : Arr (W.setCell p u) t k g l := blk_far h hp u
theorem Arr.ir (h : Arr W t k g l) {ok : Nat → Prop} (ho : ok g) {n : Nat} (hn : l.length = n) : IR W ok k (.slice (some ⟨g, 0, none⟩) n n) l := by
  subst hn
  refine ⟨_, _, rfl, fun _ => ⟨_, rfl, ho, blk_lt h, fun i z hz => ?_⟩⟩
  rw [Addr.add_lit, Nat.zero_add]
  exact h.cell hz
end
/-- The call's state: the result's box, the struct, its two arrays. -/
structure NSt (w W : World) (gs g1 g2 e : Nat) (m : Int) (fw ft : List Int) : Prop where
  bel : Below w.heap.size w W
  box : W.heap[w.heap.size]? = some (.cells #[.slice none 0 0, .slice none 0 0, .int .i64 0] 77 (0, 0))
  str : W.heap[gs]? = some (.cells #[.slice (some ⟨g1, 0, none⟩) e e, .slice (some ⟨g2, 0, none⟩) e e, .int .i64 m] 77 (0, 0))
  a1 : Arr W 3 .i64 g1 fw
  a2 : Arr W 63 .u64 g2 ft
  ne : gs ≠ w.heap.size ∧ w.heap.size ≤ gs ∧ w.heap.size ≤ g1 ∧ w.heap.size ≤ g2
section
variable {w W : World} {gs g1 g2 e : Nat} {m : Int} {fw ft : List Int}
theorem NSt.dis (h : NSt w W gs g1 g2 e m fw ft) : g1 ≠ g2 ∧ g1 ≠ gs ∧ g2 ≠ gs ∧ g1 ≠ w.heap.size ∧ g2 ≠ w.heap.size := by
  have s := h.str
  have b := h.box
  have a1 : W.heap[g1]? = _ := h.a1
  have a2 : W.heap[g2]? = _ := h.a2
  refine ⟨fun x => ?_, fun x => ?_, fun x => ?_, fun x => ?_, fun x => ?_⟩
  · rw [x, a2] at a1
    injection a1 with a1
    injection a1 with _ t
    exact absurd t (by decide)
  · rw [x, s] at a1
    injection a1 with a1
    injection a1 with _ t
    exact absurd t (by decide)
  · rw [x, s] at a2
    injection a2 with a2
    injection a2 with _ t
    exact absurd t (by decide)
  · rw [x, b] at a1
    injection a1 with a1
    injection a1 with _ t
    exact absurd t (by decide)
  · rw [x, b] at a2
    injection a2 with a2
    injection a2 with _ t
    exact absurd t (by decide)
theorem NSt.set1 (h : NSt w W gs g1 g2 e m fw ft) (i : Nat) (z : Int) : NSt w (W.setCell ⟨g1, i, none⟩ (.int .i64 z)) gs g1 g2 e m (fw.set i z) ft := by
  obtain ⟨d1, d2, d3, d4, d5⟩ := h.dis
  exact ⟨h.bel.setCell (p := ⟨g1, i, none⟩) h.ne.2.2.1 _, blk_far h.box (p := ⟨g1, i, none⟩) (Ne.symm d4) _, blk_far h.str (p := ⟨g1, i, none⟩) (Ne.symm d2) _, h.a1.set i z, h.a2.far (p := ⟨g1, i, none⟩) (Ne.symm d1) _, h.ne⟩
theorem NSt.set2 (h : NSt w W gs g1 g2 e m fw ft) (i : Nat) (z : Int) : NSt w (W.setCell ⟨g2, i, none⟩ (.int .u64 z)) gs g1 g2 e m fw (ft.set i z) := by
  obtain ⟨d1, d2, d3, d4, d5⟩ := h.dis
  exact ⟨h.bel.setCell (p := ⟨g2, i, none⟩) h.ne.2.2.2 _, blk_far h.box (p := ⟨g2, i, none⟩) (Ne.symm d5) _, blk_far h.str (p := ⟨g2, i, none⟩) (Ne.symm d3) _, h.a1.far (p := ⟨g2, i, none⟩) d1 _, h.a2.set i z, h.ne⟩
theorem NSt.drewN (h : NSt w W gs g1 g2 e m fw ft) (d : Nat) : NSt w (W.drewN d) gs g1 g2 e m fw ft := ⟨below_drewN h.bel d, h.box, h.str, h.a1, h.a2, h.ne⟩
theorem NSt.cells (h : NSt w W gs g1 g2 e m fw ft) : W.cell? ⟨gs, 0, none⟩ = some (.slice (some ⟨g1, 0, none⟩) e e) ∧ W.cell? ⟨gs, 1, none⟩ = some (.slice (some ⟨g2, 0, none⟩) e e) ∧ W.cell? ⟨gs, 2, none⟩ = some (.int .i64 m) := ⟨blk_cell h.str 0, blk_cell h.str 1, blk_cell h.str 2⟩
end
theorem Nat.rep_made (z : Value) (n : Nat) : madeCells #[z] n = (List.replicate n z).toArray := by
  apply Array.toList_inj.1
  rw [toList_madeCells_one]
end Go.Proofs.Ythijobbhpbklmaa

/- SpacePlays: the reference's New that goes, by hand. -/
namespace Go.Proofs.Ythijobbhpbklmaa
open Go.RowKit
set_option linter.unusedVariables false
set_option linter.unusedSimpArgs false

theorem bel_drew {B : Nat} {w W : World} (h : Below B w W) : Below B w W.drew := h.drew
theorem bel_alloc {w W : World} (h : Below w.heap.size w W) (o : Obj) : Below w.heap.size w (W.alloc o) := h.alloc h.size _
theorem hp_drew {W : World} {g : Nat} {o : Obj} (h : W.heap[g]? = some o) : W.drew.heap[g]? = some o := h
theorem hp_new {W : World} {g : Nat} {o : Obj} (h : g = W.heap.size) : (W.alloc o).heap[g]? = some o := by subst h; exact heap_alloc_new W o
set_option maxRecDepth 100000 in
set_option maxHeartbeats 4000000 in
theorem rnew_any (w : World) (B : Nat) (A : Option Addr) (n c : Nat) (rs : List FRc) (h : Recs w B A n rs) (hBw : B ≤ w.heap.size) (hok : FROk rs) (hn : n ≤ 1000000) (hpl : ∀ r ∈ rs, r.2.length ≤ 1000000) (htot : (rpAll rs).length ≤ 1000000000) (e l o : Nat) (hyes : SNewOk e l rs) :
    Calls Try.prog 41 #[.int .i64 (e : Int), .int .i64 (l : Int), .slice A n c, .int .u64 (o : Int)] w fun x w' => ∃ v1 v2, x = .returned (.tuple #[.agg #[v1, v2, .int .i64 (l : Int)], .int .i64 0]) ∧ IR w' (fun g => w.heap.size ≤ g) .i64 v1 (pwl (sNew e l o rs)) ∧ IR w' (fun g => w.heap.size ≤ g) .u64 v2 (ptl e (tOf rs)) ∧ Below w.heap.size w w' := by
  obtain ⟨g1, g2, g3, g4⟩ := hyes
  have hlen := h.1
  have d1 : decide (e < 2) = false := decide_eq_false (by omega)
  have d1' : decide ((e : Int) < 2) = false := decide_eq_false (by omega)
  have d2 : decide (l < e) = false := decide_eq_false (by omega)
  have d2' : decide ((l : Int) < (e : Int)) = false := decide_eq_false (by omega)
  have d3 : decide (65536 < l) = false := decide_eq_false (by omega)
  have d3' : decide ((65536 : Int) < (l : Int)) = false := decide_eq_false (by omega)
  have hmk1 := run_make_row' (P := Try.prog) 74 3 (.int .i64 0) 8 Try.underlying74 info_int rfl .i64 .i64 e (by omega) (by omega)
  have hmk2 := run_make_row' (P := Try.prog) 75 63 (.int .u64 0) 8 Try.underlying75 info_u64 rfl .i64 .i64 e (by omega) (by omega)
  have hR := h.below (w' := w.alloc (.cells #[.slice none 0 0, .slice none 0 0, .int .i64 0] 77)) (((Below.refl _ w).alloc (Nat.le_refl _) _).mono hBw)
  have hcall := rright_any _ B A n c rs hR (by simp; omega) hok hn hpl htot e (by omega)
  have HC := Lib.hid hcall
  have HSR := Lib.hid g4
  have HR := Lib.hid h
  clear hcall hR g4 h
  go_enter Try.func41, Try.ntmps41
  go_wp2_with fail
  refine HC.out.mono ?_
  rintro x w2 ⟨b, rfl, hb, hbw⟩
  obtain rfl : b = true := hb.2 HSR.out
  have HX0 := Lib.hid (blk_below (heap_alloc_new w (.cells #[.slice none 0 0, .slice none 0 0, .int .i64 0] 77)) hbw (by simp))
  have HB2 := Lib.hid (((Below.refl _ w).alloc (Nat.le_refl _) (.cells #[.slice none 0 0, .slice none 0 0, .int .i64 0] 77)).trans (hbw.mono (by simp)))
  clear hb hbw
  go_upto_region 6 with fail
  go_cut [11] (fun p wx => ∃ gs g1 g2 : Nat, p = .pointer (some ⟨gs, 0, none⟩) ∧ Hid (NSt w wx gs g1 g2 e (l : Int) (List.replicate e 0) (List.replicate e 0)))
  case first =>
    go_region
    all_goals (go_wp2_with fail; go_meet)
    all_goals have hlt := blk_lt HX0.out
    all_goals first
      | (refine ⟨_, w2.heap.size, (w2.heap.size + 1), rfl, Lib.hid ⟨?_, ?_, ?_, ?_, ?_, ?_⟩⟩; (repeat (first | with_reducible refine bel_drew ?_ | with_reducible refine bel_alloc ?_ _)); with_reducible exact HB2.out; (repeat (first | with_reducible refine hp_drew ?_ | with_reducible refine blk_alloc ?_ _)); with_reducible exact HX0.out; (repeat (first | with_reducible refine hp_drew ?_ | with_reducible exact hp_new (by simp) | with_reducible refine blk_alloc ?_ _)); (unfold Arr; rw [List.map_replicate, ← Nat.rep_made]; repeat (first | with_reducible refine hp_drew ?_ | with_reducible exact hp_new (by simp) | with_reducible refine blk_alloc ?_ _)); (unfold Arr; rw [List.map_replicate, ← Nat.rep_made]; repeat (first | with_reducible refine hp_drew ?_ | with_reducible exact hp_new (by simp) | with_reducible refine blk_alloc ?_ _)); (exact ⟨by omega, by omega, by omega, by omega⟩))
      | (refine ⟨_, w2.heap.size, (w2.heap.size + 1 + 1), rfl, Lib.hid ⟨?_, ?_, ?_, ?_, ?_, ?_⟩⟩; (repeat (first | with_reducible refine bel_drew ?_ | with_reducible refine bel_alloc ?_ _)); with_reducible exact HB2.out; (repeat (first | with_reducible refine hp_drew ?_ | with_reducible refine blk_alloc ?_ _)); with_reducible exact HX0.out; (repeat (first | with_reducible refine hp_drew ?_ | with_reducible exact hp_new (by simp) | with_reducible refine blk_alloc ?_ _)); (unfold Arr; rw [List.map_replicate, ← Nat.rep_made]; repeat (first | with_reducible refine hp_drew ?_ | with_reducible exact hp_new (by simp) | with_reducible refine blk_alloc ?_ _)); (unfold Arr; rw [List.map_replicate, ← Nat.rep_made]; repeat (first | with_reducible refine hp_drew ?_ | with_reducible exact hp_new (by simp) | with_reducible refine blk_alloc ?_ _)); (exact ⟨by omega, by omega, by omega, by omega⟩))
      | (refine ⟨_, (w2.heap.size + 1), w2.heap.size, rfl, Lib.hid ⟨?_, ?_, ?_, ?_, ?_, ?_⟩⟩; (repeat (first | with_reducible refine bel_drew ?_ | with_reducible refine bel_alloc ?_ _)); with_reducible exact HB2.out; (repeat (first | with_reducible refine hp_drew ?_ | with_reducible refine blk_alloc ?_ _)); with_reducible exact HX0.out; (repeat (first | with_reducible refine hp_drew ?_ | with_reducible exact hp_new (by simp) | with_reducible refine blk_alloc ?_ _)); (unfold Arr; rw [List.map_replicate, ← Nat.rep_made]; repeat (first | with_reducible refine hp_drew ?_ | with_reducible exact hp_new (by simp) | with_reducible refine blk_alloc ?_ _)); (unfold Arr; rw [List.map_replicate, ← Nat.rep_made]; repeat (first | with_reducible refine hp_drew ?_ | with_reducible exact hp_new (by simp) | with_reducible refine blk_alloc ?_ _)); (exact ⟨by omega, by omega, by omega, by omega⟩))
      | (refine ⟨_, (w2.heap.size + 1), (w2.heap.size + 1 + 1), rfl, Lib.hid ⟨?_, ?_, ?_, ?_, ?_, ?_⟩⟩; (repeat (first | with_reducible refine bel_drew ?_ | with_reducible refine bel_alloc ?_ _)); with_reducible exact HB2.out; (repeat (first | with_reducible refine hp_drew ?_ | with_reducible refine blk_alloc ?_ _)); with_reducible exact HX0.out; (repeat (first | with_reducible refine hp_drew ?_ | with_reducible exact hp_new (by simp) | with_reducible refine blk_alloc ?_ _)); (unfold Arr; rw [List.map_replicate, ← Nat.rep_made]; repeat (first | with_reducible refine hp_drew ?_ | with_reducible exact hp_new (by simp) | with_reducible refine blk_alloc ?_ _)); (unfold Arr; rw [List.map_replicate, ← Nat.rep_made]; repeat (first | with_reducible refine hp_drew ?_ | with_reducible exact hp_new (by simp) | with_reducible refine blk_alloc ?_ _)); (exact ⟨by omega, by omega, by omega, by omega⟩))
      | (refine ⟨_, (w2.heap.size + 1 + 1), w2.heap.size, rfl, Lib.hid ⟨?_, ?_, ?_, ?_, ?_, ?_⟩⟩; (repeat (first | with_reducible refine bel_drew ?_ | with_reducible refine bel_alloc ?_ _)); with_reducible exact HB2.out; (repeat (first | with_reducible refine hp_drew ?_ | with_reducible refine blk_alloc ?_ _)); with_reducible exact HX0.out; (repeat (first | with_reducible refine hp_drew ?_ | with_reducible exact hp_new (by simp) | with_reducible refine blk_alloc ?_ _)); (unfold Arr; rw [List.map_replicate, ← Nat.rep_made]; repeat (first | with_reducible refine hp_drew ?_ | with_reducible exact hp_new (by simp) | with_reducible refine blk_alloc ?_ _)); (unfold Arr; rw [List.map_replicate, ← Nat.rep_made]; repeat (first | with_reducible refine hp_drew ?_ | with_reducible exact hp_new (by simp) | with_reducible refine blk_alloc ?_ _)); (exact ⟨by omega, by omega, by omega, by omega⟩))
      | (refine ⟨_, (w2.heap.size + 1 + 1), (w2.heap.size + 1), rfl, Lib.hid ⟨?_, ?_, ?_, ?_, ?_, ?_⟩⟩; (repeat (first | with_reducible refine bel_drew ?_ | with_reducible refine bel_alloc ?_ _)); with_reducible exact HB2.out; (repeat (first | with_reducible refine hp_drew ?_ | with_reducible refine blk_alloc ?_ _)); with_reducible exact HX0.out; (repeat (first | with_reducible refine hp_drew ?_ | with_reducible exact hp_new (by simp) | with_reducible refine blk_alloc ?_ _)); (unfold Arr; rw [List.map_replicate, ← Nat.rep_made]; repeat (first | with_reducible refine hp_drew ?_ | with_reducible exact hp_new (by simp) | with_reducible refine blk_alloc ?_ _)); (unfold Arr; rw [List.map_replicate, ← Nat.rep_made]; repeat (first | with_reducible refine hp_drew ?_ | with_reducible exact hp_new (by simp) | with_reducible refine blk_alloc ?_ _)); (exact ⟨by omega, by omega, by omega, by omega⟩))
  case rest =>
    obtain ⟨gs, g1, g2, rfl, HN0⟩ := hcut
    clear hmk1 hmk2 HX0 HB2
    go_wp2_with fail
    go_loopw [12] (fun i wr => ∃ k : Nat, k ≤ n ∧ i = .int .i64 (k : Int) ∧ Hid (NSt w wr gs g1 g2 e (l : Int) (pwl (sNew e l o (rs.take k))) (ptl e (tOf (rs.take k))))) (fun i _ => n - (intOf i).toNat)
    case atStart => exact ⟨0, Nat.zero_le _, rfl, Lib.hid (by rw [List.take_zero, pwl_nil, ptl_nil]; exact HN0.out)⟩
    case round =>
      obtain ⟨k, hk, rfl, HN⟩ := hrel
      obtain ⟨wo, hwo⟩ : ∃ wo, wo = wr := ⟨_, rfl⟩
      subst hwo
      by_cases hlt : k < n
      · have e1 : decide ((k : Int) < (n : Int)) = true := decide_eq_true (by omega)
        obtain ⟨r, ad, Ap, np, cp, hrk, rfl, hRC0⟩ := HR.out.at_ hlt
        have hrm := List.mem_of_getElem? hrk
        have HRR := Lib.hid (HSR.out k r hrk)
        have hnp := hpl r hrm
        have hTr := (hok r hrm).1
        have hpl1 : r.2.length = np := by have := hRC0.2.2.2.1; rw [Pgs_length] at this; omega
        have HRK := Lib.hid hrk
        have HRC := Lib.hid hRC0
        obtain ⟨T, pl⟩ := r
        have hTr : T < 18446744073709551616 := hTr
        have hpl1 : pl.length = np := hpl1
        have hnp : np ≤ 1000000 := by rw [← hpl1]; exact hnp
        have HPL := Lib.hid hpl1
        have HTK : Hid (rs.take (k + 1) = rs.take k ++ [(T, pl)]) := Lib.hid (htk_ hrk)
        clear hRC0 hrk hrm hpl1
        have HC : Hid (∀ W, RowKit.Below w.heap.size w W → W.cell? (ad.add (k * 2)) = some (.int .u64 (T : Int)) ∧ W.cell? ⟨(ad.add (k * 2)).block, (ad.add (k * 2)).off + 1, none⟩ = some (.slice Ap np cp) ∧ ∀ (j q : Nat), pl[j]? = some q → ∃ ap, Ap = some ap ∧ W.cell? (ap.add j) = some (.int .u32 (q : Int))) := Lib.hid (fun W hA => by
          have hh := HRC.out.below (hA.mono hBw)
          refine ⟨hh.2.1, hh.2.2.1, fun j q hq => ?_⟩
          have hj := (List.getElem?_eq_some_iff.1 hq).1
          obtain ⟨ap, u, e, _, hu, hc⟩ := hh.2.2.2.at_ (k := j) (by rw [← HPL.out]; exact hj)
          have hu : (Pgs pl)[j]? = some u := hu
          simp only [Pgs, List.getElem?_map, hq, Option.map_some] at hu
          injection hu with hu
          subst hu
          exact ⟨ap, e, hc⟩)
        obtain ⟨c0, c1, _⟩ := HC.out wo HN.out.bel
        go_wp2_with fail
        clear c0 c1
        go_loopw [13] (fun i wr => ∃ j : Nat, j ≤ np ∧ i = .int .i64 (j : Int) ∧ Hid (NSt w wr gs g1 g2 e (l : Int) (pwl (spa o (sNew e l o (rs.take k)) T pl j)) (ptl e (tpa (rs.take k) T pl j)))) (fun i _ => np - (intOf i).toNat)
        case atStart => exact ⟨0, Nat.zero_le _, rfl, Lib.hid (by rw [spa_zero, tpa_zero]; exact HN.out)⟩
        case round =>
          obtain ⟨j, hj, rfl, HN2⟩ := hrel
          obtain ⟨wi, hwi⟩ : ∃ wi, wi = wr := ⟨_, rfl⟩
          subst hwi
          obtain ⟨c0, c1, c2⟩ := HC.out wi HN2.out.bel
          by_cases hlt2 : j < np
          · have e2 : decide ((j : Int) < (np : Int)) = true := decide_eq_true (by omega)
            obtain ⟨q, hq⟩ : ∃ q, pl[j]? = some q := ⟨_, List.getElem?_eq_getElem (by rw [HPL.out]; exact hlt2)⟩
            obtain ⟨ap, rfl, cq⟩ := c2 j q hq
            obtain ⟨r1, r2, r3, r4⟩ := HRR.out.2.2 j q hq
            have hnm := (sNew_mem (e := e) (l := l) (o := o) (rs := rs.take k) (p := q))
            have HST := Lib.hid (spa_step (a := o) (S := sNew e l o (rs.take k)) (T := T) hq ⟨fun h => r4 (List.mem_append.2 (.inl (hnm.1 (.inl h)))), fun h => r4 (List.mem_append.2 (.inl (hnm.1 (.inr h))))⟩)
            have HTT := Lib.hid (tpa_step (m := e) (rs := rs.take k) (T := T) hq)
            obtain ⟨v0, hv0⟩ : ∃ v, (ptl e (tpa (rs.take k) T pl j))[q]? = some v := ⟨_, ptl_at r2⟩
            obtain ⟨v1, hv1⟩ : ∃ v, (pwl (spa o (sNew e l o (rs.take k)) T pl j))[q]? = some v := ⟨_, pwl_at (by rw [spa_fin]; exact r2)⟩
            have z0 := HN2.out.a2.cell hv0
            have zf := HN2.out.a2.free q
            obtain ⟨s0, s1, s2⟩ := HN2.out.cells
            have HQ := Lib.hid hq
            have HV1 := Lib.hid hv1
            clear r3 r4 hnm hv0 hv1 hq c2
            have HNT : Hid (NSt w (wi.setCell ⟨g2, q, none⟩ (.int .u64 (T : Int))) gs g1 g2 e (l : Int) (pwl (spa o (sNew e l o (rs.take k)) T pl j)) (ptl e (tpa (rs.take k) T pl (j + 1)))) := Lib.hid (by rw [← HTT.out]; exact HN2.out.set2 q T)
            have hq32 : q < 4294967296 := (hok _ (List.mem_of_getElem? HRK.out)).2 q (List.mem_of_getElem? HQ.out)
            go_upto_region 14 with fail
            go_cut [14] (fun s wx => s = .int .u32 (q : Int) ∧ Hid (NSt w wx gs g1 g2 e (l : Int) (pwl (spa o (sNew e l o (rs.take k)) T pl j)) (ptl e (tpa (rs.take k) T pl (j + 1)))))
            case first =>
              go_region
              all_goals (go_wp2_with fail; go_meet)
              all_goals exact ⟨rfl, Lib.hid (HNT.out.drewN 1)⟩
            case rest =>
              obtain ⟨rfl, HN3⟩ := hcut
              obtain ⟨s0, s1, s2⟩ := HN3.out.cells
              obtain ⟨c0, c1, _⟩ := HC.out _ HN3.out.bel
              have y0 := HN3.out.a1.cell HV1.out
              have yf := HN3.out.a1.free q
              have HN4 := Lib.hid (HN3.out.set1 q 2)
              obtain ⟨c3, c4, _⟩ := HC.out _ HN4.out.bel
              obtain ⟨t0, t1, t2⟩ := HN4.out.cells
              have hql : q < (pwl (spa o (sNew e l o (rs.take k)) T pl j)).length := by rw [pwl_length, spa_fin]; exact r2
              have y1 := HN4.out.a1.cell (i := q) (z := 2) (by rw [List.getElem?_set_self hql])
              have yf1 := HN4.out.a1.free q
              obtain ⟨dd1, dd2, dd3, dd4, dd5⟩ := HN3.out.dis
              clear hql
              by_cases hTo : T ≤ o
              · have e3 : decide ((T : Int) ≤ (o : Int)) = true := decide_eq_true (by omega)
                have e3' : decide (T ≤ o) = true := decide_eq_true hTo
                have HN5 : Hid (NSt w ((wc.setCell ⟨g1, q, none⟩ (.int .i64 2)).setCell ⟨g1, q, none⟩ (.int .i64 1)) gs g1 g2 e (l : Int) (pwl (spa o (sNew e l o (rs.take k)) T pl (j + 1))) (ptl e (tpa (rs.take k) T pl (j + 1)))) := Lib.hid (by rw [← HST.out.1 hTo]; exact HN4.out.set1 q 1)
                clear hTo
                go_wp2_with fail
                exact ⟨⟨j + 1, by omega, by go_num, HN5⟩, by simp [intOf]; omega⟩
              · have e3 : decide ((T : Int) ≤ (o : Int)) = false := decide_eq_false (by omega)
                have e3' : decide (T ≤ o) = false := decide_eq_false hTo
                have HN5 : Hid (NSt w (wc.setCell ⟨g1, q, none⟩ (.int .i64 2)) gs g1 g2 e (l : Int) (pwl (spa o (sNew e l o (rs.take k)) T pl (j + 1))) (ptl e (tpa (rs.take k) T pl (j + 1)))) := Lib.hid (by rw [← HST.out.2 hTo]; exact HN4.out)
                clear hTo
                go_wp2_with fail
                exact ⟨⟨j + 1, by omega, by go_num, HN5⟩, by simp [intOf]; omega⟩
          · obtain rfl : j = np := by omega
            have e2 : decide ((j : Int) < (j : Int)) = false := decide_eq_false (by omega)
            have HN3 : Hid (NSt w wi gs g1 g2 e (l : Int) (pwl (sNew e l o (rs.take (k + 1)))) (ptl e (tOf (rs.take (k + 1))))) := Lib.hid (by
              rw [HTK.out, ← spa_end, ← tpa_end (pl := pl) (fun q hq => ?_), HPL.out]
              · exact HN2.out
              · obtain ⟨i, hi⟩ := List.getElem?_of_mem hq
                exact fun hm => (HRR.out.2.2 i q hi).2.2.2 (List.mem_append.2 (.inl hm)))
            clear c2 HN2
            go_wp2_with fail
            exact ⟨⟨k + 1, by omega, by go_num, HN3⟩, by simp [intOf]; omega⟩
      · obtain rfl : k = n := by omega
        have e1 : decide ((k : Int) < (k : Int)) = false := decide_eq_false (by omega)
        have hall : rs.take k = rs := List.take_of_length_le (by rw [hlen]; exact Nat.le_refl _)
        rw [hall] at HN
        obtain ⟨s0, s1, s2⟩ := HN.out.cells
        have q0 := blk_cell HN.out.box 0
        have q1 := blk_cell HN.out.box 1
        have q2 := blk_cell HN.out.box 2
        have f0 := blk_frozen HN.out.box 0
        have f1 := blk_frozen HN.out.box 1
        have f2 := blk_frozen HN.out.box 2
        have ngs := HN.out.ne.1
        go_wp2_with fail
        obtain ⟨dd1, dd2, dd3, dd4, dd5⟩ := HN.out.dis
        have X1 := blk_set3 HN.out.box (.slice (some ⟨g1, 0, none⟩) e e) (.slice (some ⟨g2, 0, none⟩) e e) (.int .i64 l)
        have XB := below_set3 HN.out.bel (Nat.le_refl _) (.slice (some ⟨g1, 0, none⟩) e e) (.slice (some ⟨g2, 0, none⟩) e e) (.int .i64 l)
        refine bodyPost_ret (results_ct rfl _ _ w.heap.size _ _ (0, 0) _ rfl X1 Try.underlying77 rfl (by kernel_rfl)) rfl ?_
        have i1 := HN.out.a1.ir (ok := fun g => w.heap.size ≤ g ∧ g ≠ w.heap.size) ⟨HN.out.ne.2.2.1, dd4⟩ (n := e) (by rw [pwl_length]; rfl)
        have i2 := HN.out.a2.ir (ok := fun g => w.heap.size ≤ g ∧ g ≠ w.heap.size) ⟨HN.out.ne.2.2.2, dd5⟩ (n := e) (by rw [ptl_length])
        exact ⟨_, _, rfl, i1.keep (by simp) (fun g _ hg => ⟨heap_set3 _ hg.2 _ _ _, hg.1⟩), i2.keep (by simp) (fun g _ hg => ⟨heap_set3 _ hg.2 _ _ _, hg.1⟩), XB⟩
end Go.Proofs.Ythijobbhpbklmaa
