/- SIter; SLow -/
import Derived.Test.YthijobbhpbklmaaSpPl1
import Derived.RangeFuncBox
import Derived.RangeFuncLeaves
import Derived.RangeFuncKeeps
import Derived.Sort.MapsRangeIn
import Derived.Sort.KeysCollected
import Derived.Shelf.Abstract
import Derived.WalkKit
import Derived.OwnWalkIn
import Derived.TacticsInMore
import Derived.LoopNIn
import Derived.LoopIn
import Derived.Maps.AppendAt
import Derived.OpenShut
/- maps.Keys over a set of pages; slices.Collect of it. -/
namespace Go.Proofs.Ythijobbhpbklmaa
open Go.RowKit Go.Maps Go.Sort Go.Shelf
set_option linter.unusedVariables false
set_option linter.unusedSimpArgs false
attribute [local go_sem] Oper.semAt_some

def encP (p : Nat) : Value := .int .u32 (p : Int)
theorem encP_inj {a b : Nat} (h : encP a = encP b) : a = b := by
  unfold encP at h
  injection h with _ h
  omega
theorem keyOf_page {key : Value} {kl : Lit} (h : keyOf Try.prog 73 key = some kl) : ∃ p : Nat, key = encP p ∧ kl = .int .u32 (p : Int) ∧ p < 4294967296 := by
  obtain ⟨x, h1, h2, h3⟩ := Maps.keyOf_int_inv Try.underlying73 h
  have hb := bounds_u32 h3
  obtain ⟨p, rfl⟩ := Int.eq_ofNat_of_zero_le hb.1
  exact ⟨p, h1, h2, by omega⟩
/-- The pages met so far. -/
def CollectedP {H : Type} (D0 : DataW H) (left : Lit → Bool) (ss : List Nat) : Prop := ss.Nodup ∧ ∀ x : Nat, x ∈ ss ↔ (has D0 (.int .u32 (x : Int)) = true ∧ left (.int .u32 (x : Int)) = false)
theorem CollectedP.start {H : Type} (D0 : DataW H) : CollectedP D0 (has D0) [] := ⟨List.nodup_nil, fun x => by cases has D0 (.int .u32 (x : Int)) <;> simp⟩
theorem CollectedP.step {H : Type} {D0 : DataW H} {left : Lit → Bool} {ss : List Nat} (h : CollectedP D0 left ss) {x : Nat} {y : DataW H} (hlk : left (.int .u32 (x : Int)) = true) (hat : ∀ zd, D0.atKey (.int .u32 (x : Int)) zd = y) : CollectedP D0 (fun z => left z && !z.sameKey (.int .u32 (x : Int))) (ss ++ [x]) := by
  have hhas : has D0 (.int .u32 (x : Int)) = true := has_true_of_atKey hat
  have hnew : x ∉ ss := fun hx => by have := ((h.2 x).1 hx).2; rw [hlk] at this; cases this
  refine ⟨List.nodup_append.2 ⟨h.1, by simp, fun a ha b hb => by simp at hb; subst hb; exact fun e => hnew (e ▸ ha)⟩, fun y => ?_⟩
  by_cases hy : y = x
  · subst hy; simp [hhas, Lit.sameKey]
  · have : ¬ ((y : Int) = (x : Int)) := by omega
    simp [h.2 y, hy, this, Lit.sameKey]

set_option maxRecDepth 100000 in
set_option maxHeartbeats 1000000 in
theorem pkeys1_in (F : Fence) (n : Nat) (h10 : F.fn 85) (hro : F.round = none) (hn : 1 ≤ n) (l Bm b nn : Nat) (D0 : DataW Unit) (J Jx : List Nat → World → Prop)
    (hY : ∀ pre x W, J pre W → pre.length < Maps.size D0 → YieldAt F (n - 1) Try.prog l #[encP x] W fun e W' =>
      (e = .returned (.bool true) ∧ J (pre ++ [x]) W' ∧ KeepsWalks W W') ∨ (e = .returned (.bool false) ∧ Jx (pre ++ [x]) W'))
    (W : World) (hJ : AbidesFrom W.heap.size J) (hm : W.cell? ⟨Bm, 0, none⟩ = some (.map (some b))) (hown : W.ownsMap Try.prog 73 unitElem b nn D0) (h0 : J [] W) :
    CallsIn F n Try.prog 85 #[.func (.yield l) #[] #[], .pointer (some ⟨Bm, 0, none⟩)] W fun e W' => (∃ v, e = .returned v) ∧
      ((∃ ss : List Nat, (ss.Nodup ∧ ∀ x : Nat, x ∈ ss ↔ has D0 (.int .u32 (x : Int)) = true) ∧ J ss W') ∨ (∃ pre : List Nat, True ∧ Jx pre W')) := by
  refine callsIn_of_wp Try.func85 rfl h10 ?_ hro
  simp only [Try.ntmps85, List.size_toArray, List.length_cons, List.length_nil, Nat.reduceAdd, Nat.reduceSub, Array.replicate_succ, Array.replicate_zero, List.push_toArray, List.append_toArray, List.nil_append, List.cons_append]
  gi_wp2_with (first
    | (gi_at_range; refine wpListIn_range_own _ rfl _ 141 rfl 73 108 law_page Try.underlying141 _ b nn _ rfl hown ?_; intro w0 hrg0 hg0 hs0)
    | gi_in)
  go_frame
  gi_loopw [3] (fun _ wr => ∃ (left : Lit → Bool) (cnt : Nat) (ss : List Nat), wr.ranges Try.prog 73 unitElem b W.heap.size nn D0 left cnt ∧ ss.length + cnt ≤ Maps.size D0 ∧ CollectedP D0 left ss ∧ J ss wr)
    (fun _ wr => wr.rangeLeft b W.heap.size)
  case atStart =>
    exact ⟨_, _, [], hrg0, by simp, CollectedP.start D0, hJ [] W w0 none h0 hg0 (fun r e => by cases e)⟩
  case round =>
    obtain ⟨left, cnt, ss, hrg, hcs, hC, hJs⟩ := hrel
    gi_wp2_with (first
      | (gi_at_next; refine wpListIn_next_ranges _ rfl _ rfl 73 law_page unitElem encP id (fun key kl hk => by obtain ⟨x, hx, _⟩ := keyOf_page hk; exact ⟨x, hx⟩) (fun v _ _ => ⟨v, rfl⟩) b W.heap.size nn _ _ _ rfl hrg ?_ ?_)
      | gi_in)
    · intro hc0 hl0
      gi_wp2
      go_end0
      exact ⟨⟨_, rfl⟩, .inl ⟨ss, ⟨hC.1, fun x => by rw [hC.2 x, hl0]; simp⟩, hJs⟩⟩
    · intro x c kl yd yp w2 cnt2 hkey hlk hv hat hrg2 hlt hg2 hs2 hen
      obtain ⟨x', ex, rfl, _⟩ := keyOf_page hkey
      obtain rfl : x = x' := encP_inj ex
      have hJ2 : J ss w2 := hJ ss wr w2 (some W.heap.size) hJs hg2 (fun r e => by cases e; exact ⟨Nat.le_refl _, hrg.iter_walk⟩)
      obtain ⟨fn, tmps, assign, body, hy, hR⟩ := hY ss x w2 hJ2 (by omega)
      clear hs2
      gi_wp2
      refine hR.mono ?_
      have hC2 := hC.step hlk hat
      rintro e W3 (⟨rfl, hJ3, hk3⟩ | ⟨rfl, hJx3⟩)
      · gi_wp2
        have hrg3 := hrg2.of_walks hk3
        go_roundw
        case rel => exact ⟨_, cnt2, ss ++ [x], hrg3, by simp; omega, hC2, hJ3⟩
        case measure => rw [hrg3.left_eq, hrg.left_eq]; exact hlt
      · gi_wp2
        refine bodyPost_ret (results_none rfl _ _ _) rfl ?_
        exact ⟨⟨_, rfl⟩, .inr ⟨ss ++ [x], trivial, hJx3⟩⟩
theorem pkeys_any (w : World) (mb : Option Nat) : Calls Try.prog 79 #[.map mb] w fun e w' => e = .returned (.func (.func 85) #[] #[.pointer (some ⟨w.heap.size, 0, none⟩)]) ∧ w' = w.alloc (.cells #[.map mb] 141) := by
  go_enter Try.func79, Try.ntmps79
  go_wp2
  go_ret
  exact ⟨rfl, rfl⟩
theorem pkeys_stops (F : Fence) (n : Nat) (h10 : F.fn 85) (hro : F.round = none) (hn : 1 ≤ n) (Bm b : Nat) (S : List Nat) (w : World) (hBm : Bm < w.heap.size)
    (hm : w.cell? ⟨Bm, 0, none⟩ = some (.map (some b))) (h : MSet w b S) :
    SeqStopsK F n Try.prog 85 #[.pointer (some ⟨Bm, 0, none⟩)] (fun x : Nat => #[encP x]) KeepsWalks (fun ss => ss.Nodup ∧ ∀ x, x ∈ ss ↔ x ∈ S) (fun pre => True) S.length w := fun l J Jx W hW hJ _ hY h0 => by
  have hM := h.below hW h.lt
  obtain ⟨_, nn, D0, hown, hsz, hhas⟩ := hM
  rw [← hsz] at hY
  refine (pkeys1_in F n h10 hro hn l Bm b nn D0 J Jx hY W hJ ((hW.cell (p := ⟨Bm, 0, none⟩) hBm).trans hm) hown h0).mono ?_
  rintro e W' ⟨hv, hh⟩
  refine ⟨hv, ?_⟩
  rcases hh with ⟨ss, ⟨hnd, hmem⟩, hj⟩ | hh
  · exact .inl ⟨ss, ⟨hnd, fun x => by rw [hmem x, hhas x]; simp⟩, hj⟩
  · exact .inr hh

theorem info_page : (Try.prog.info? 73).map (fun i => (i.zero, i.size, i.bytes)) = some (some (.int .u32 0), 1, 4) := by kernel_rfl
set_option maxRecDepth 100000 in
set_option maxHeartbeats 2000000 in
/-- slices.AppendSeq(nil, maps.Keys(s)) -/
theorem pappend_any (w : World) (Bm b : Nat) (S : List Nat) (hBm : Bm < w.heap.size) (hm : w.cell? ⟨Bm, 0, none⟩ = some (.map (some b))) (h : MSet w b S) (hS : S.length ≤ 1000000) :
    Calls Try.prog 84 #[.slice none 0 0, .func (.func 85) #[] #[.pointer (some ⟨Bm, 0, none⟩)]] w fun e w' => ∃ (v : Value) (ss : List Nat), e = .returned v ∧ (ss.Nodup ∧ ∀ x, x ∈ ss ↔ x ∈ S) ∧ w'.ownsRow w.heap.size 73 1 v ss.length (ss.map encP) ∧ Below w.heap.size w w' := by
  obtain ⟨i0, hi, hz0, hz1, hz2⟩ := info_parts info_page
  refine (callsIn_wide (n := 4)).1 ?_
  refine callsIn_of_wp_marks Try.func84 rfl trivial ?_ rfl
  simp only [Try.ntmps84, List.size_toArray, List.length_cons, List.length_nil, Nat.reduceAdd, Nat.reduceSub, Array.replicate_succ, Array.replicate_zero, List.push_toArray, List.append_toArray, List.nil_append, List.cons_append]
  gi_wp2
  have bO := Boxed.new w 99 (.slice none 0 0)
  have hB0 : Below w.heap.size w (w.alloc (.cells #[.slice none 0 0] 99)) := (Below.refl _ w).alloc (Nat.le_refl _) _
  refine wpIn_rangeFunc_ownG rfl (by omega) (gf := 85) (lb := #[.pointer (some ⟨Bm, 0, none⟩)]) rfl trivial (enters_of Try.func85 (by kernel_rfl) rfl)
    (pkeys_stops Fence.wide _ trivial rfl (by omega) Bm b S _ (by simp; omega) ((hB0.cell (p := ⟨Bm, 0, none⟩) hBm).trans hm) (h.below hB0 h.lt)) (fun h k => h.trans k) (fun W l o o' hl h1 h2 h3 => KeepsWalks.putObj _ h1 h3) (Below.refl _ _) (fun _ => rfl)
    (fun pre W => (∃ v, Boxed W w.heap.size 99 v ∧ W.ownsRow w.heap.size 73 1 v pre.length (pre.map encP) ∧ True) ∧ Below w.heap.size w W)
    (fun _ _ _ => False)
    (OwnFrom.and (Own.from (holdsRow_own w.heap.size w.heap.size 99 73 1 (fun pre : List Nat => pre.length) (fun pre => pre.map encP) (fun pre v => True)) _) (ownFrom_below (Nat.le_refl _) (by simp)))
    (fun _ _ _ _ _ hs _ _ => hs)
    ⟨⟨_, bO, World.ownsRow_nil _ _ _ _, trivial⟩, hB0⟩
    (fun x => { tmps := #[.slice none 0 0, .func (.func 85) #[] #[.pointer (some ⟨Bm, 0, none⟩)], .pointer (some ⟨w.heap.size, 0, none⟩), undef, .slice none 0 0, (.int .u32 (x : Int)), .func (.func 85) #[] #[.pointer (some ⟨Bm, 0, none⟩)], (.int .u32 (x : Int)), undef, undef, undef, undef, undef], defers := [] }) ?assign ?body ?done ?stop
  case assign =>
    intro l x W K hK
    gi_wp2
    exact hK
  case body =>
    rintro l pre x W ⟨⟨v, hv, hrow, _⟩, hB⟩ hlt
    have hc := hv.cell
    gi_wp2_with (gi_at_builtin; refine wpListIn_append_own _ rfl _ _ 99 rfl w.heap.size 73 i0 (.int .u32 0) 1 4 Try.underlying99 hi hz0 hz1 hz2 rfl (by decide) _ _ _ rfl (hrow.alloc _) ⟨W.heap.size, 0, none⟩ 1 1 [.int .u32 (x : Int)] rfl rfl (cell_one_new _ _ _) (by simp [Value.oneCell']) (by unfold maxLen; omega) (by omega) (by have := hB.size; simp; omega) ?_; intro v' w1 hown' hgrow _; obtain ⟨g', cap', rfl⟩ := ownsRow_succ hown'; obtain ⟨hv1, hv2, hr2, hk2, hb2⟩ := hv.appended (by decide) hrow hB.size (Nat.le_refl _) hown' hgrow; have hc1 := hv1.cell; have hf1 := hv1.frozen)
    exact ⟨hk2.from _, hk2.walks, ⟨_, hv2, by simpa [encP] using hr2, trivial⟩, hB.trans hb2⟩
  case done =>
    rintro D ys W hD hS' ⟨⟨v, hv, hrow, _⟩, hB⟩ hK
    have hc := hv.cell
    gi_wp2
    refine ⟨by simp, .inl ⟨_, _, rfl, run_takeDeferred hK, ?_⟩⟩
    exact ⟨_, results_tmp rfl _ _ _, v, ys, rfl, hS', ownsRow_putObj hrow _ hK rfl, hB.trans (belowK_b (w := w) (Nat.le_refl _) W D _ _ (by simp at hD; omega) hK rfl rfl)⟩
  case stop =>
    rintro D c pre W _ _ h _
    exact h.elim
end Go.Proofs.Ythijobbhpbklmaa

/- The lowest page of a set. -/
namespace Go.Proofs.Ythijobbhpbklmaa
open Go.RowKit
set_option linter.unusedVariables false
set_option linter.unusedSimpArgs false

theorem pcollect_any (w : World) (Bm b : Nat) (S : List Nat) (hBm : Bm < w.heap.size) (hm : w.cell? ⟨Bm, 0, none⟩ = some (.map (some b))) (h : MSet w b S) (hS : S.length ≤ 1000000) :
    Calls Try.prog 78 #[.func (.func 85) #[] #[.pointer (some ⟨Bm, 0, none⟩)]] w fun e w' => ∃ (v : Value) (ss : List Nat), e = .returned v ∧ (ss.Nodup ∧ ∀ x, x ∈ ss ↔ x ∈ S) ∧ w'.ownsRow w.heap.size 73 1 v ss.length (ss.map encP) ∧ Below w.heap.size w w' := by
  have hc := pappend_any w Bm b S hBm hm h hS
  go_enter Try.func78, Try.ntmps78
  go_wp2_with fail
  refine hc.mono ?_
  rintro e w' ⟨v, ss, rfl, h1, h2, h3⟩
  go_wp2_with fail
  go_ret
  exact ⟨v, ss, rfl, h1, h2, h3⟩
/-- The least of some numbers. -/
def minL : Nat → List Nat → Nat
  | m, [] => m
  | m, x :: l => minL (min m x) l
theorem minL_snoc (m : Nat) (l : List Nat) (x : Nat) : minL m (l ++ [x]) = min (minL m l) x := by
  induction l generalizing m with
  | nil => rfl
  | cons y l ih => exact ih _
theorem minL_le (m : Nat) (l : List Nat) : minL m l ≤ m ∧ ∀ x ∈ l, minL m l ≤ x := by
  induction l generalizing m with
  | nil => exact ⟨Nat.le_refl _, fun x hx => by cases hx⟩
  | cons y l ih =>
    obtain ⟨h1, h2⟩ := ih (min m y)
    refine ⟨Nat.le_trans h1 (Nat.min_le_left _ _), fun x hx => ?_⟩
    rcases List.mem_cons.1 hx with rfl | hx
    · exact Nat.le_trans h1 (Nat.min_le_right _ _)
    · exact h2 x hx
theorem minL_mem (m : Nat) (l : List Nat) : minL m l = m ∨ minL m l ∈ l := by
  induction l generalizing m with
  | nil => exact .inl rfl
  | cons y l ih =>
    rcases ih (min m y) with h | h
    · rcases Nat.le_total m y with c | c
      · rw [minL, h, Nat.min_eq_left c]; exact .inl rfl
      · rw [minL, h, Nat.min_eq_right c]; exact .inr List.mem_cons_self
    · exact .inr (List.mem_cons_of_mem _ h)
set_option maxRecDepth 100000 in
theorem pmin_any (w : World) (A : Addr) (B c : Nat) (p : Nat) (l : List Nat) (hn : l.length ≤ 1000000000) (hr : Reads w B 1 (some A) (p :: l).length ((p :: l).map encP)) (hp : ∀ x ∈ p :: l, x < 4294967296) :
    Calls Try.prog 77 #[.slice (some A) (p :: l).length c] w fun e w' => e = .returned (.int .u32 (minL p l : Int)) ∧ w = w' := by
  have hcell : ∀ (j x : Nat), (p :: l)[j]? = some x → w.cell? (A.add j) = some (.int .u32 (x : Int)) := fun j x hx => by
    obtain ⟨ad, u, ea, hb, hu, hc⟩ := hr.at_ (k := j) (List.getElem?_eq_some_iff.1 hx).1
    cases ea
    rw [List.getElem?_map, hx] at hu
    cases hu
    exact hc
  have c0 := hcell 0 p rfl
  rw [Addr.add_zero'] at c0
  have hlen : (p :: l).length = l.length + 1 := rfl
  rw [hlen]
  obtain ⟨n, hn'⟩ : ∃ n, l.length = n := ⟨_, rfl⟩
  rw [hn'] at hn ⊢
  have HN := Lib.hid hn'
  have d1 : decide (((n + 1 : Nat) : Int) < 1) = false := decide_eq_false (by omega)
  have d1' : decide ((n : Int) + 1 < 1) = false := decide_eq_false (by omega)
  have HC := Lib.hid hcell
  have HP := Lib.hid hp
  clear hr hn' hlen hcell hp
  go_enter Try.func77, Try.ntmps77
  go_wp2_with fail
  clear c0
  go_loopw [3, 4] (fun m i wr => ∃ k : Nat, k ≤ n ∧ m = .int .u32 ((minL p (l.take k) : Nat) : Int) ∧ i = .int .i64 ((k : Int) + 1) ∧ wr = w) (fun _ i _ => n + 1 - (intOf i).toNat)
  case atStart => exact ⟨0, Nat.zero_le _, by simp [minL], rfl, rfl⟩
  case round =>
    obtain ⟨k, hk, rfl, rfl, rfl⟩ := hrel
    by_cases hlt : k < n
    · obtain ⟨x, hx⟩ : ∃ x, l[k]? = some x := ⟨_, List.getElem?_eq_getElem (by rw [HN.out]; exact hlt)⟩
      have cx := HC.out (k + 1) x (by simpa using hx)
      rw [show A.add (k + 1) = ⟨A.block, A.off + (k + 1), none⟩ from by unfold Addr.add; rw [if_neg (by omega)]] at cx
      have hms := minL_snoc p (l.take k) x
      rw [← (show l.take (k + 1) = l.take k ++ [x] from by rw [List.take_add_one, hx]; rfl)] at hms
      obtain ⟨m, hm⟩ : ∃ m, minL p (l.take k) = m := ⟨_, rfl⟩
      rw [hm] at hms ⊢
      have hmi : (if (x : Int) < (m : Int) then (x : Int) else (m : Int)) = ((minL p (l.take (k + 1)) : Nat) : Int) := by
        rw [hms]
        split <;> omega
      have HV := Lib.hid (show Value.int .u32 (if x < m then (x : Int) else (m : Int)) = .int .u32 ((minL p (l.take (k + 1)) : Nat) : Int) from by rw [← hmi]; congr 1; split <;> split <;> omega)
      clear hms hx hmi
      have d2 : decide ((k : Int) + 1 < (n : Int) + 1) = true := decide_eq_true (by omega)
      go_wp2_with fail
      exact ⟨⟨k + 1, by omega, HV.out, by go_num, trivial⟩, by simp [intOf]; omega⟩
    · obtain rfl : k = n := by omega
      have hall : l.take k = l := List.take_of_length_le (by rw [HN.out]; exact Nat.le_refl _)
      rw [hall]
      have d2 : decide ((k : Int) + 1 < (k : Int) + 1) = false := decide_eq_false (by omega)
      go_wp2_with fail
      go_ret
      exact ⟨rfl, rfl⟩
/-- The least of a set that isn't empty. -/
def minS : List Nat → Nat
  | [] => 0
  | x :: l => minL x l
theorem minS_mem {S : List Nat} (h : S ≠ []) : minS S ∈ S ∧ ∀ x ∈ S, minS S ≤ x := by
  cases S with
  | nil => exact absurd rfl h
  | cons y l =>
    obtain ⟨h1, h2⟩ := minL_le y l
    refine ⟨?_, fun x hx => ?_⟩
    · rcases minL_mem y l with h | h
      · rw [minS, h]; exact List.mem_cons_self
      · exact List.mem_cons_of_mem _ h
    · rcases List.mem_cons.1 hx with rfl | hx
      · exact h1
      · exact h2 x hx
theorem minS_same {S T : List Nat} (h : ∀ x, x ∈ S ↔ x ∈ T) (hS : S ≠ []) : minS S = minS T := by
  have hT : T ≠ [] := by
    intro e
    subst e
    cases S with
    | nil => exact hS rfl
    | cons y l => exact absurd ((h y).1 List.mem_cons_self) (by simp)
  obtain ⟨a1, a2⟩ := minS_mem hS
  obtain ⟨b1, b2⟩ := minS_mem hT
  exact Nat.le_antisymm (a2 _ ((h _).2 b1)) (b2 _ ((h _).1 a1))
theorem MSet.len_run {w : World} {b : Nat} {S : List Nat} (h : MSet w b S) : ∃ (n : Nat) (D : DataW Unit), w.ownsMap Try.prog 73 unitElem b n D ∧ Maps.size D = S.length := by
  obtain ⟨_, n, D, h1, h2, _⟩ := h
  exact ⟨n, D, h1, h2⟩
set_option maxRecDepth 100000 in
theorem lowest_any (w : World) (b : Nat) (S : List Nat) (h : MSet w b S) (hS : S.length ≤ 1000000) (hp : ∀ x ∈ S, x < 4294967296) :
    Calls Try.prog 68 #[.map (some b)] w fun e w' => (e = .returned (if S = [] then .tuple #[.int .u32 0, .bool false] else .tuple #[.int .u32 (minS S : Int), .bool true])) ∧ Below w.heap.size w w' := by
  obtain ⟨nn, D0, hown, hsz⟩ := h.len_run
  by_cases he : S = []
  · subst he
    rw [if_pos rfl]
    have hz : Maps.size D0 = 0 := hsz
    go_enter Try.func68, Try.ntmps68
    go_wp2_with (first | (at_len; refine wpList_len_own _ rfl _ 141 rfl 73 108 Try.underlying141 _ b nn D0 rfl hown ?_; rw [hz]))
    go_ret2
    exact ⟨rfl, Below.refl _ _⟩
  · rw [if_neg he]
    obtain ⟨n, hn⟩ : ∃ n, S.length = n := ⟨_, rfl⟩
    have hpos : 0 < n := by rw [← hn]; exact List.length_pos_iff.2 he
    rw [hn] at hsz hS
    have h0 : ((n : Int) == 0) = false := by simp; omega
    have h0' : (n == 0) = false := by simp; omega
    have hm1 : MSet (w.alloc (.cells #[.map (some b)] 141)) b S := h.below ((Below.refl _ w).alloc (Nat.le_refl _) _) h.lt
    have hc1 : (w.alloc (.cells #[.map (some b)] 141)).cell? ⟨w.heap.size, 0, none⟩ = some (.map (some b)) := blk_cell (heap_alloc_new w _) 0
    have hcol := pcollect_any (w.alloc (.cells #[.map (some b)] 141)) w.heap.size b S (by simp) hc1 hm1 (by omega)
    have hb1 : Below w.heap.size w (w.alloc (.cells #[.map (some b)] 141)) := (Below.refl _ w).alloc (Nat.le_refl _) _
    have HE := Lib.hid he
    have hmN := h
    have HMN := Lib.hid hmN.1
    clear hmN h hm1 hc1 he
    go_enter Try.func68, Try.ntmps68
    go_wp2_with (first | (at_len; refine wpList_len_own _ rfl _ 141 rfl 73 108 Try.underlying141 _ b nn D0 rfl hown ?_; rw [hsz]) | (go_at_call 79; refine (pkeys_any _ _).mono ?_; rintro e w' ⟨rfl, rfl⟩))
    refine hcol.mono ?_
    rintro e w2 ⟨v, ss, rfl, ⟨hnd, hmem⟩, hown2, hb2⟩
    cases ss with
    | nil =>
      exfalso
      obtain ⟨y, hy⟩ := List.exists_mem_of_ne_nil S HE.out
      exact absurd ((hmem y).2 hy) (by simp)
    | cons p l =>
      obtain ⟨A2, c2, rfl⟩ := own_slice hown2
      have hr := Reads.of_own hown2
      obtain ⟨A3, rfl⟩ : ∃ A3, A2 = some A3 := by
        obtain ⟨ad, e, _⟩ := hr.2 (by simp)
        exact ⟨ad, e⟩
      have hlen : (p :: l).length = n := by
        rw [← hn]
        exact (List.perm_ext_iff_of_nodup hnd HMN.out).2 (fun x => hmem x) |>.length_eq
      have hmin := pmin_any w2 A3 w2.heap.size c2 p l (by have : (p :: l).length = l.length + 1 := rfl; omega) hr (fun x hx => hp x ((hmem x).1 hx))
      have HSA := Lib.hid (minS_same hmem (by simp))
      have HMI := Lib.hid hmin
      clear hlen hmin hown2 hr
      go_wp2_with fail
      refine HMI.out.mono ?_
      rintro e w3 ⟨rfl, rfl⟩
      go_wp2_with fail
      go_ret2
      exact ⟨by rw [← HSA.out]; rfl, hb1.trans (hb2.mono (by simp))⟩
end Go.Proofs.Ythijobbhpbklmaa
