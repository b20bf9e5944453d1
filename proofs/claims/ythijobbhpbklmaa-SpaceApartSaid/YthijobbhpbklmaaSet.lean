/- Sets of pages (package space): has, add. -/
import Derived.Test.YthijobbhpbklmaaLib
import Derived.Maps.OwnSet
namespace Go.Proofs.Ythijobbhpbklmaa
open Go.RowKit Go.ChangeShapes Go.WideShapes Go.Maps
set_option linter.unusedVariables false
set_option linter.unusedSimpArgs false

theorem law_page : Keyed Try.prog 73 := int_keyed Try.underlying73
theorem key_page (p : Nat) (hp : p < 4294967296) : keyOf Try.prog 73 (.int .u32 (p : Int)) = some (.int .u32 (p : Int)) := by
  rw [keyOf_int Try.underlying73]
  simp only [mapKey, Try.underlying73]
  simp [Lit.wf, IntKind.min, IntKind.max, IntKind.signed, IntKind.bits]
  omega
/-- Block b is a map that holds just the pages S. -/
def MSet (w : World) (b : Nat) (S : List Nat) : Prop :=
  S.Nodup ∧ ∃ (n : Nat) (D : DataW Unit), w.ownsMap Try.prog 73 unitElem b n D ∧ Maps.size D = S.length ∧ ∀ p : Nat, Maps.has D (.int .u32 (p : Int)) = decide (p ∈ S)
theorem own_tight {w : World} {P : Program} {k : TypeId} {R : Value → Option (DataW Unit × List MemPlace)} {b n : Nat} {D : DataW Unit} (h : w.ownsMap P k R b n D) : w.ownsMap P k R b (Maps.size D) D := by
  obtain ⟨es, clock, hb, F, _, rfl⟩ := h
  exact ⟨es, clock, hb, F, by simp [Maps.size, length_sorted], rfl⟩
theorem MSet.lt {w : World} {b : Nat} {S : List Nat} (h : MSet w b S) : b < w.heap.size := by
  obtain ⟨_, n, D, ⟨es, clock, hb, _⟩, _⟩ := h
  exact blk_lt hb
theorem MSet.block {w w' : World} {b : Nat} {S : List Nat} (h : MSet w b S) (hk : w'.heap[b]? = w.heap[b]?) : MSet w' b S := by
  obtain ⟨hn, n, D, ⟨es, clock, hb, r⟩, h2⟩ := h
  exact ⟨hn, n, D, ⟨es, clock, hk.trans hb, r⟩, h2⟩
theorem MSet.below {w w' : World} {B b : Nat} {S : List Nat} (h : MSet w b S) (hb : Below B w w') (hlt : b < B) : MSet w' b S := h.block (hb.block b hlt)
theorem MSet.made (w : World) : MSet (w.alloc (.map #[] 0)) w.heap.size [] :=
  ⟨List.nodup_nil, 0, .map [], World.ownsMap_made _ _ _ _, rfl, fun p => rfl⟩
/-- No block of cells is a map's. -/
theorem MSet.ne {w : World} {b g : Nat} {S : List Nat} {C : Array Value} {t : TypeId} {fr : Nat × Nat} (h : MSet w b S) (hg : w.heap[g]? = some (.cells C t fr)) : g ≠ b := by
  obtain ⟨_, n, D, ⟨es, clock, hb, _⟩, _⟩ := h
  intro e
  subst e
  rw [hg] at hb
  cases hb

theorem zero_unit (w : World) : (zeroValue 108).run Try.prog w = .ok (.agg #[]) w := by kernel_rfl

/-- has -/
theorem has_any (w : World) (b : Nat) (S : List Nat) (h : MSet w b S) (p : Nat) (hp : p < 4294967296) :
    Calls Try.prog 67 #[.map (some b), .int .u32 (p : Int)] w fun e w' => e = .returned (.bool (decide (p ∈ S))) ∧ Below w.heap.size w w' := by
  obtain ⟨_, n, D, hown, _, hhas⟩ := h
  have hkey := key_page p hp
  have hh := hhas p
  clear hhas
  go_enter Try.func67, Try.ntmps67
  go_wp2_with (first
    | (at_lookup; refine wpList_lookup_own_unit _ rfl _ _ 141 rfl 73 108 law_page Try.underlying141 (zero_unit _) b n D rfl hown _ _ rfl hkey ?_; rw [hh]))
  go_ret
  exact ⟨rfl, by first | exact (Below.refl _ _).alloc (Nat.le_refl _) _ | exact ((Below.refl _ _).alloc (Nat.le_refl _) _).setCell (by simp) _⟩

/-- add: a page that is new -/
theorem add_any (w : World) (b : Nat) (S : List Nat) (h : MSet w b S) (hS : S.length ≤ 1000000000) (p : Nat) (hp : p < 4294967296) (hno : p ∉ S) :
    Calls Try.prog 66 #[.map (some b), .int .u32 (p : Int)] w fun e w' => e = .returned (.tuple #[]) ∧ MSet w' b (S ++ [p]) ∧ w.grownBy w' (some b) := by
  obtain ⟨hnd, n, D, hown0, hsz, hhas⟩ := h
  have hown := own_tight hown0
  have hkey := key_page p hp
  have htidy := hown.tidy law_page
  have hisM := hown.isMap
  have hnew : Maps.has D (.int .u32 (p : Int)) = false := by rw [hhas p]; exact decide_eq_false hno
  have HH := Lib.hid hhas
  have HZ := Lib.hid hsz
  have hsl : Maps.size D ≤ 1000000000 := by rw [hsz]; exact hS
  clear hown0 hhas hsz
  go_enter Try.func66, Try.ntmps66
  go_wp2_with (first
    | (at_mapUpdate; refine wpList_mapUpdate_own _ rfl _ _ _ 141 rfl 73 108 law_page Try.underlying141 unitElem b _ D rfl hown (by unfold maxLen; omega) _ _ _ rfl rfl hkey _ [] unitElem_mk ?_; intro w1 hown1 hgrow1))
  go_end0
  refine ⟨rfl, ⟨?_, _, _, hown1, ?_, fun q => ?_⟩, hgrow1⟩
  · rw [List.nodup_append]
    exact ⟨hnd, by simp, by intro a ha c hc; rw [List.mem_singleton.1 hc]; intro e; exact hno (e ▸ ha)⟩
  · rw [Maps.size_put htidy, hnew]
    simp [HZ.out]
  · by_cases e : q = p
    · subst e
      rw [Maps.has_put_same hisM (show WideAt.IsKeyLit (.int .u32 (q : Int)) from trivial)]
      simp
    · rw [Maps.has_put_other (by intro h; injection h with _ h; exact e (by omega)), HH.out q]
      simp [e]

end Go.Proofs.Ythijobbhpbklmaa
