/- SSorted -/
import Derived.Test.YthijobbhpbklmaaSpPl5
import Derived.Test.YthijobbhpbklmaaSpPl6
/- slices.Sorted of a set's keys; a set as a record (layer 8). -/
namespace Go.Proofs.Ythijobbhpbklmaa
open Go.RowKit Go.Sort
set_option linter.unusedVariables false
set_option linter.unusedSimpArgs false

section
variable {w : World} {g n : Nat} {cur : Array Value} {e : TypeId} {os : Array Obj}
theorem holds_of_blockQ {ss : List Nat} (hb : w.heap[g]? = some (.cells cur e (0, 0))) (ht : cur.toList.take ss.length = ss.map encQ) : Holds encQ w g 0 ss.toArray := by
  intro j hj
  have hj' : j < ss.length := by simpa using hj
  refine ⟨?_, by simp [World.frozen?, hb]⟩
  have h1 : (cur.toList.take ss.length)[j]? = (ss.map encQ)[j]? := by rw [ht]
  rw [List.getElem?_take_of_lt hj'] at h1
  simp only [World.cell?, hb, Nat.zero_add]
  simp only [Option.isSome_none, Bool.false_eq_true, if_false]
  rw [← Array.getElem?_toList, h1]
  simp [hj']
theorem heap_sortedQ {fr : Nat × Nat} (d : Array Nat) (hb : w.heap[g]? = some (.cells cur e fr)) :
    (grow (putRow encQ (Sort.ahead w n) g 0 d) os).heap[g]? = some (.cells (putCells encQ 0 d cur) e fr) := by
  have hg : g < w.heap.size := (Array.getElem?_eq_some_iff.1 hb).1
  rw [heap_grow_old _ _ (by simpa using hg)]
  simp [putRow, mapBlock, Sort.ahead, Array.getElem?_modify, hb, onCells]
theorem grownBy_sortedQ (d : Array Nat) : w.grownBy (grow (putRow encQ (Sort.ahead w n) g 0 d) os) (some g) := by
  refine ⟨rfl, rfl, rfl, by simp, fun k hk hne => ?_⟩
  rw [heap_grow_old _ _ (by simpa using hk)]
  have : g ≠ k := fun e => hne (by rw [e])
  simp [putRow, mapBlock, Sort.ahead, Array.getElem?_modify, this]
theorem take_putCellsQ (cur : Array Value) (ts : List Nat) (h : ts.length ≤ cur.size) : (putCells encQ 0 ts.toArray cur).toList.take ts.length = ts.map encQ := by
  apply List.ext_getElem?
  intro j
  by_cases hj : j < ts.length
  · rw [List.getElem?_take_of_lt hj, Array.getElem?_toList]
    simp [putCells, hj, show j < cur.size by omega]
  · rw [List.getElem?_take_eq_none (by omega), List.getElem?_eq_none (by simp; omega)]
theorem ownsRow_sortedQ {base cap : Nat} {ss ts : List Nat} (hl : ts.length = ss.length) (hbase : base ≤ g) (hb : w.heap[g]? = some (.cells cur e (0, 0)))
    (h1 : ss.length ≤ cap) (h2 : cap ≤ maxLen) (h3 : cur.size = cap * 1) :
    (grow (putRow encQ (Sort.ahead w n) g 0 ts.toArray) os).ownsRow base e 1 (.slice (some ⟨g, 0, none⟩) ss.length cap) ss.length (ts.map encQ) :=
  ⟨by simp [hl], .inr ⟨g, cap, _, rfl, hbase, heap_sortedQ _ hb, h1, h2, by simp [putCells, h3], by rw [Nat.mul_one, ← hl]; exact take_putCellsQ cur ts (by omega)⟩⟩
end
theorem srt_length (l : List Nat) : (srt l).length = l.length := List.length_mergeSort l
theorem srt_one (a : Nat) : srt [a] = [a] := List.mergeSort_singleton a
theorem srt_pair (l : List Nat) : (srt l).Pairwise (fun a b => decide (a ≤ b) = true) :=
  List.pairwise_mergeSort (le := fun x y => decide (x ≤ y)) (fun a b c h1 h2 => by simp only [decide_eq_true_eq] at *; omega) (fun a b => by by_cases h : a ≤ b <;> simp [h]; omega) l
theorem srt_perm {l m : List Nat} (h : l.Perm m) : srt l = srt m := by
  refine List.Perm.eq_of_pairwise (le := fun a b => decide (a ≤ b) = true) ?_ (srt_pair l) (srt_pair m) (((List.mergeSort_perm l _).trans h).trans (List.mergeSort_perm m _).symm)
  intro a b _ _ h1 h2
  simp only [decide_eq_true_eq] at h1 h2
  omega
set_option maxRecDepth 100000 in
/-- slices.Sorted of the pages of a set -/
theorem psorted_any {m : Nat} (HS : SortsAt m) (hm6 : m ≤ 1000000) (w : World) (Bm b : Nat) (S : List Nat) (hBm : Bm < w.heap.size) (hm : w.cell? ⟨Bm, 0, none⟩ = some (.map (some b))) (h : MSet w b S) (hne : S ≠ []) (hS : S.length ≤ m) :
    Calls Try.prog 80 #[.func (.func 85) #[] #[.pointer (some ⟨Bm, 0, none⟩)]] w fun e w' => ∃ v, e = .returned v ∧ w'.ownsRow w.heap.size 73 1 v S.length ((srt S).map encP) ∧ Below w.heap.size w w' := by
  have hc := pcollect_any w Bm b S hBm hm h (by omega)
  have HN := Lib.hid h.1
  have HE := Lib.hid hne
  clear h hne
  go_enter Try.func80, Try.ntmps80
  go_wp2_with fail
  refine hc.mono ?_
  rintro e w1 ⟨v, ss, rfl, ⟨hnd, hmem⟩, hown, hb⟩
  have hperm : ss.Perm S := (List.perm_ext_iff_of_nodup hnd HN.out).2 (fun x => hmem x)
  have hlen : ss.length = S.length := hperm.length_eq
  have hpos : 0 < S.length := List.length_pos_iff.2 HE.out
  rcases hown.2 with ⟨rfl, hz⟩ | ⟨gb, cap, cur, rfl, hbase, hgb, r1, r2, r3, r4⟩
  · omega
  · have hH : Holds encQ w1 gb 0 ss.toArray := holds_of_blockQ hgb (by have := r4; rw [Nat.mul_one] at this; exact this)
    have hgl : gb < w1.heap.size := (Array.getElem?_eq_some_iff.1 hgb).1
    have hsrt := HS gb 0 cap ss w1 hH hgl (by omega) (by omega)
    have hfin : ∀ n os, (grow (putRow encQ (Sort.ahead w1 n) gb 0 (srt ss).toArray) os).ownsRow w.heap.size 73 1 (.slice (some ⟨gb, 0, none⟩) ss.length cap) S.length ((srt S).map encP) := fun n os => by
      have := ownsRow_sortedQ (n := n) (os := os) (ss := ss) (ts := srt ss) (srt_length ss) hbase hgb r1 r2 r3
      rw [srt_perm hperm, hlen] at this
      rw [srt_perm hperm, hlen]
      exact this
    have HF := Lib.hid hfin
    have hbf : ∀ n os, Below w.heap.size w (grow (putRow encQ (Sort.ahead w1 n) gb 0 (srt ss).toArray) os) := fun n os => hb.grown (grownBy_sortedQ _) hb.size (fun j hj => by cases hj; exact hbase)
    have HB := Lib.hid hbf
    clear hH hfin hbf r4 hown hmem hnd hlen hperm
    go_wp2_with fail
    refine hsrt.mono ?_
    rintro e w2 ⟨rfl, n, os, rfl⟩
    go_wp2_with fail
    go_ret
    exact ⟨_, rfl, HF.out n os, HB.out n os⟩
/-- A set as a record. -/
def rec1 (l : List Nat) (t : Nat) : List FRc := if l = [] then [] else [(t, srt l)]
theorem rec1_nil (t : Nat) : rec1 [] t = [] := rfl
theorem rec1_len (l : List Nat) (t : Nat) : (rec1 l t).length ≤ 1 := by unfold rec1; split <;> simp
set_option maxRecDepth 100000 in
theorem record_any {m : Nat} (HS : SortsAt m) (hm6 : m ≤ 1000000) (w : World) (b : Nat) (S : List Nat) (h : MSet w b S) (hS : S.length ≤ m) (t : Nat) (ht : t < 18446744073709551616) (base : Nat) (hbase : base ≤ w.heap.size) :
    Calls Try.prog 70 #[.map (some b), .int .u64 (t : Int)] w fun e w' => ∃ v, e = .returned v ∧ WRow w' base (fun k => w.heap.size ≤ k) v (rec1 S t) ∧ Below w.heap.size w w' := by
  obtain ⟨nn, D0, hown, hsz⟩ := h.len_run
  by_cases he : S = []
  · subst he
    have hz : Maps.size D0 = 0 := hsz
    go_enter Try.func70, Try.ntmps70
    go_wp2_with (first | (at_len; refine wpList_len_own _ rfl _ 141 rfl 73 108 Try.underlying141 _ b nn D0 rfl hown ?_; rw [hz]))
    go_ret
    exact ⟨_, rfl, ⟨none, 0, [], rfl, World.ownsRow_nil _ _ _ _, by intro k hk; simp [Value.ownBlock] at hk, by intro i r hi; simp [rec1] at hi⟩, Below.refl _ _⟩
  · obtain ⟨n, hn⟩ : ∃ n, S.length = n := ⟨_, rfl⟩
    have hpos : 0 < n := by rw [← hn]; exact List.length_pos_iff.2 he
    have hm1 : MSet (w.alloc (.cells #[.map (some b)] 141)) b S := h.below ((Below.refl _ w).alloc (Nat.le_refl _) _) h.lt
    have hc1 : (w.alloc (.cells #[.map (some b)] 141)).cell? ⟨w.heap.size, 0, none⟩ = some (.map (some b)) := blk_cell (heap_alloc_new w _) 0
    have hsrt := psorted_any HS hm6 (w.alloc (.cells #[.map (some b)] 141)) w.heap.size b S (by simp) hc1 hm1 he hS
    rw [hn] at hsz hS
    have h0 : ((n : Int) == 0) = false := by simp; omega
    have h0' : (n == 0) = false := by simp; omega
    have hb1 : Below w.heap.size w (w.alloc (.cells #[.map (some b)] 141)) := (Below.refl _ w).alloc (Nat.le_refl _) _
    have HE := Lib.hid he
    clear h hm1 hc1 he
    go_enter Try.func70, Try.ntmps70
    go_wp2_with (first | (at_len; refine wpList_len_own _ rfl _ 141 rfl 73 108 Try.underlying141 _ b nn D0 rfl hown ?_; rw [hsz]) | (go_at_call 79; refine (pkeys_any _ _).mono ?_; rintro e w' ⟨rfl, rfl⟩))
    refine hsrt.mono ?_
    rintro e w2 ⟨v, rfl, hown2, hb2⟩
    obtain ⟨A2, c2, rfl⟩ := own_slice hown2
    rw [hn] at hown2 ⊢
    have HO2 := Lib.hid hown2
    clear hown2
    go_wp2_with fail
    go_ret
    have hz2 : w.heap.size + 1 ≤ w2.heap.size := by have := hb2.size; simpa using this
    have hblk2 : (w2.alloc (.cells #[.int .u64 (t : Int), .slice A2 n c2] 101)).heap[w2.heap.size]? = some (.cells #[.int .u64 (t : Int), .slice A2 n c2] 101 (0, 0)) := heap_alloc_new w2 _
    have hrec : rec1 S t = [(t, srt S)] := by unfold rec1; rw [if_neg HE.out]
    have ho3 : (w2.alloc (.cells #[.int .u64 (t : Int), .slice A2 n c2] 101)).ownsRow (w.heap.size + 1) 73 1 (.slice A2 n c2) n ((srt S).map encP) := own_move_ (by simpa using HO2.out) (fun g C _ hC => Below.heap_alloc w2 _ g (blk_lt hC))
    refine ⟨_, rfl, ?_, (hb1.trans (hb2.mono (by simp))).alloc (by omega) _⟩
    rw [hrec]
    refine ⟨_, _, [.int .u64 (t : Int), .slice A2 n c2], rfl, ⟨rfl, .inr ⟨_, 1, _, rfl, by omega, hblk2, by simp, by simp [maxLen], by simp, by simp⟩⟩, fun k hk => ?_, fun i r hi => ?_⟩
    · have hk : w2.heap.size = k := by simpa [Value.ownBlock] using hk
      show w.heap.size ≤ k
      omega
    · have hl := (List.getElem?_eq_some_iff.1 hi).1
      simp at hl
      subst hl
      simp at hi
      subst hi
      exact ⟨A2, n, c2, rfl, rfl, own_weaken ho3 (by omega), fun k hk => by have := (ho3.lt k hk).1; show w.heap.size ≤ k; omega⟩
end Go.Proofs.Ythijobbhpbklmaa
