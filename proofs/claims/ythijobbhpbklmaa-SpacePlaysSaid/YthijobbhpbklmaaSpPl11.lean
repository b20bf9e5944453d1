/- SAwake -/
import Derived.Test.YthijobbhpbklmaaSpPl9
import Derived.Test.YthijobbhpbklmaaSpPl10
/- awake of layer 8. -/
namespace Go.Proofs.Ythijobbhpbklmaa
open Go.RowKit
set_option linter.unusedVariables false
set_option linter.unusedSimpArgs false

theorem WRow.cells_ {w : World} {base : Nat} {ok : Nat → Prop} {v : Value} {rs : List FRc} (h : WRow w base ok v rs) (hne : rs ≠ []) : ∃ g c, v = .slice (some ⟨g, 0, none⟩) rs.length c ∧ ∀ (i : Nat) (r : FRc), rs[i]? = some r → ∃ A' c', w.cell? ⟨g, i * 2, none⟩ = some (.int .u64 (r.1 : Int)) ∧ w.cell? ⟨g, i * 2 + 1, none⟩ = some (.slice A' r.2.length c') ∧ (r.2 ≠ [] → ∃ g', A' = some ⟨g', 0, none⟩ ∧ ∀ (j x : Nat), r.2[j]? = some x → w.cell? ⟨g', j, none⟩ = some (.int .u32 (x : Int))) := by
  obtain ⟨A, c, cs, rfl, ho, _, hr⟩ := h.split
  have hlen : 0 < rs.length := List.length_pos_iff.2 hne
  have hrd := Reads.of_own ho
  rcases ho.2 with ⟨e, hz⟩ | ⟨g, cap, cur, e, _⟩
  · omega
  · injection e with e1 e2 e3
    subst e1
    obtain ⟨ad, e, hB, hcell⟩ := hrd.2 (by omega)
    injection e with e
    subst e
    refine ⟨g, c, rfl, fun i r hi => ?_⟩
    obtain ⟨A', n', c', a1, a2, a3, _⟩ := hr.2 i r hi
    have e1 := hcell _ _ a1
    have e2 := hcell _ _ a2
    rw [Addr.add_lit, Nat.zero_add] at e1 e2
    have hn' : r.2.length = n' := by have := a3.1; simpa using this
    subst hn'
    refine ⟨A', c', e1, e2, fun hne' => ?_⟩
    have hlen' : 0 < r.2.length := List.length_pos_iff.2 hne'
    rcases a3.2 with ⟨e, hz⟩ | ⟨g', cap', cur', e, _⟩
    · omega
    · injection e with e1 e2 e3
      subst e1
      obtain ⟨ad', e, _, hcell'⟩ := (Reads.of_own a3).2 (by omega)
      injection e with e
      subst e
      refine ⟨g', rfl, fun j x hx => ?_⟩
      have := hcell' j (encP x) (by rw [List.getElem?_map, hx]; rfl)
      rw [Addr.add_lit, Nat.zero_add] at this
      exact this
def aRs : List FRc := [(3, [5]), (7, [6])]
def aS0 : Sp := ⟨8, 20, [(7, [6])], [5], [], [], [6]⟩
def aS1 : Sp := ⟨8, 20, [(7, [6])], [], [5], [], [6]⟩
def aS2 : Sp := ⟨9, 20, [(7, [6])], [], [5, 8], [], [6]⟩
def aS3 : Sp := ⟨9, 20, [(7, [6])], [], [5, 8], [4], [6]⟩
theorem aS0_is : sNew 8 20 4 aRs = aS0 := rfl
theorem aS1_is : aS0.take = (aS1, 5, 0) := rfl
theorem aS2_is : aS1.take = (aS2, 8, 0) := rfl
theorem aS3_is : aS2.give 4 = (aS3, 0) := rfl
theorem aS4_is : aS3.give 6 = (aS3, 1) := rfl
theorem aRec_is : sRecs aS3 9 = [(7, [6]), (9, [4])] := by
  unfold sRecs rec1
  show ([] ++ [(7, [6])]) ++ [(9, srt [4])] = _
  rw [srt_one]
  rfl
theorem aRight : SpRight aRs 8 := by
  intro k r hk
  have hl := (List.getElem?_eq_some_iff.1 hk).1
  have hl : k < 2 := hl
  rcases (show k = 0 ∨ k = 1 by omega) with rfl | rfl
  · have hk : some (3, [5]) = some r := hk
    injection hk with hk
    subst hk
    refine ⟨by simp, fun q h0 => by omega, fun j p hj => ?_⟩
    have hjl := (List.getElem?_eq_some_iff.1 hj).1
    simp at hjl
    subst hjl
    simp at hj
    subst hj
    exact ⟨by omega, by omega, by simp, by simp [rpAll]⟩
  · have hk : some (7, [6]) = some r := hk
    injection hk with hk
    subst hk
    refine ⟨by simp, fun q _ h0 => ?_, fun j p hj => ?_⟩
    · have h0 : some (3, [5]) = some q := h0
      injection h0 with h0
      subst h0
      simp
    have hjl := (List.getElem?_eq_some_iff.1 hj).1
    simp at hjl
    subst hjl
    simp at hj
    subst hj
    exact ⟨by omega, by omega, by simp, by simp [rpAll, aRs]⟩
set_option maxRecDepth 100000 in
set_option maxHeartbeats 2000000 in
theorem awake08 {m : Nat} (HS : SortsAt m) (hm : 12 ≤ m) (hm6 : m ≤ 1000000) (w : World) : Calls Try.prog 37 #[] w fun e w' => e = .returned (.bool true) ∧ Below w.heap.size w w' := by
  obtain ⟨b, hb⟩ : ∃ b, w.heap.size = b := ⟨_, rfl⟩
  go_enter Try.func37, Try.ntmps37
  go_wp2_with fail
  rw [← hb]
  have hx0 : (((w.alloc (.cells #[.int .u32 5] 73)).alloc (.cells #[.int .u32 6] 73)).alloc (.cells #[.int .u64 3, .slice (some ⟨w.heap.size, 0, none⟩) 1 1, .int .u64 7, .slice (some ⟨w.heap.size + 1, 0, none⟩) 1 1] 101)).heap[w.heap.size]? = some (.cells #[.int .u32 5] 73 (0, 0)) := blk_alloc (blk_alloc (heap_alloc_new w _) _) _
  have hx1 : (((w.alloc (.cells #[.int .u32 5] 73)).alloc (.cells #[.int .u32 6] 73)).alloc (.cells #[.int .u64 3, .slice (some ⟨w.heap.size, 0, none⟩) 1 1, .int .u64 7, .slice (some ⟨w.heap.size + 1, 0, none⟩) 1 1] 101)).heap[w.heap.size + 1]? = some (.cells #[.int .u32 6] 73 (0, 0)) := blk_alloc (by have := heap_alloc_new (w.alloc (.cells #[.int .u32 5] 73)) (.cells #[.int .u32 6] 73); rw [World.size_alloc] at this; exact this) _
  have hx2 : (((w.alloc (.cells #[.int .u32 5] 73)).alloc (.cells #[.int .u32 6] 73)).alloc (.cells #[.int .u64 3, .slice (some ⟨w.heap.size, 0, none⟩) 1 1, .int .u64 7, .slice (some ⟨w.heap.size + 1, 0, none⟩) 1 1] 101)).heap[w.heap.size + 1 + 1]? = some (.cells #[.int .u64 3, .slice (some ⟨w.heap.size, 0, none⟩) 1 1, .int .u64 7, .slice (some ⟨w.heap.size + 1, 0, none⟩) 1 1] 101 (0, 0)) := by
    have := heap_alloc_new ((w.alloc (.cells #[.int .u32 5] 73)).alloc (.cells #[.int .u32 6] 73)) (.cells #[.int .u64 3, .slice (some ⟨w.heap.size, 0, none⟩) 1 1, .int .u64 7, .slice (some ⟨w.heap.size + 1, 0, none⟩) 1 1] 101)
    rw [World.size_alloc, World.size_alloc] at this
    exact this
  have hb3 : RowKit.Below w.heap.size w (((w.alloc (.cells #[.int .u32 5] 73)).alloc (.cells #[.int .u32 6] 73)).alloc (.cells #[.int .u64 3, .slice (some ⟨w.heap.size, 0, none⟩) 1 1, .int .u64 7, .slice (some ⟨w.heap.size + 1, 0, none⟩) 1 1] 101)) := (((Below.refl _ w).alloc (Nat.le_refl _) _).alloc (by simp) _).alloc (by simp; omega) _
  have hz3 : (((w.alloc (.cells #[.int .u32 5] 73)).alloc (.cells #[.int .u32 6] 73)).alloc (.cells #[.int .u64 3, .slice (some ⟨w.heap.size, 0, none⟩) 1 1, .int .u64 7, .slice (some ⟨w.heap.size + 1, 0, none⟩) 1 1] 101)).heap.size = w.heap.size + 3 := by simp
  generalize (((w.alloc (.cells #[.int .u32 5] 73)).alloc (.cells #[.int .u32 6] 73)).alloc (.cells #[.int .u64 3, .slice (some ⟨w.heap.size, 0, none⟩) 1 1, .int .u64 7, .slice (some ⟨w.heap.size + 1, 0, none⟩) 1 1] 101)) = w3 at hx0 hx1 hx2 hb3 hz3 ⊢
  rw [hb] at hx0 hx1 hx2 hb3 hz3 ⊢
  have hz3' : b + 3 ≤ w3.heap.size := by omega
  have HZ3 := Lib.hid hz3
  clear hz3
  have hrecs : Recs w3 (b + 3) (some ⟨b + 1 + 1, 0, none⟩) 2 aRs := by
    refine ⟨rfl, fun i r hi => ?_⟩
    have hl : i < 2 := (List.getElem?_eq_some_iff.1 hi).1
    rcases (show i = 0 ∨ i = 1 by omega) with rfl | rfl
    · have hi : some (3, [5]) = some r := hi
      injection hi with hi
      subst hi
      refine ⟨_, _, 1, 1, rfl, by show b + 1 + 1 < b + 3; omega, blk_cell hx2 0, blk_cell hx2 1, rfl, fun _ => ⟨_, rfl, by show b < b + 3; omega, fun j u hu => ?_⟩⟩
      have hj := (List.getElem?_eq_some_iff.1 hu).1
      have hj : j < 1 := hj
      obtain rfl : j = 0 := by omega
      injection hu with hu
      subst hu
      exact blk_cell hx0 0
    · have hi : some (7, [6]) = some r := hi
      injection hi with hi
      subst hi
      refine ⟨_, _, 1, 1, rfl, by show b + 1 + 1 < b + 3; omega, blk_cell hx2 2, blk_cell hx2 3, rfl, fun _ => ⟨_, rfl, by show b + 1 < b + 3; omega, fun j u hu => ?_⟩⟩
      have hj := (List.getElem?_eq_some_iff.1 hu).1
      have hj : j < 1 := hj
      obtain rfl : j = 0 := by omega
      injection hu with hu
      subst hu
      exact blk_cell hx1 0
  have hcp : ∀ (W : World), RowKit.Below (b + 3) w3 W → ∀ i r ad Ap np cp, aRs[i]? = some r → some (⟨b + 1 + 1, 0, none⟩ : Addr) = some ad → RcAt W (b + 3) (ad.add (i * 2)) r Ap np cp → np ≤ cp ∧ (Ap = none → cp = 0) := by
    intro W hW i r ad Ap np cp hi hA hR
    injection hA with hA
    subst hA
    have hl : i < 2 := (List.getElem?_eq_some_iff.1 hi).1
    have hh := (hW.block (b + 1 + 1) (by omega)).trans hx2
    have hc := hR.2.2.1
    rcases (show i = 0 ∨ i = 1 by omega) with rfl | rfl
    · have hc' : W.cell? ⟨b + 1 + 1, 1, none⟩ = some (.slice Ap np cp) := hc
      rw [blk_cell hh 1] at hc'
      injection hc' with hc'
      injection hc' with z1 z2 z3
      subst z1 z2 z3
      exact ⟨Nat.le_refl _, fun e => by cases e⟩
    · have hc' : W.cell? ⟨b + 1 + 1, 3, none⟩ = some (.slice Ap np cp) := hc
      rw [blk_cell hh 3] at hc'
      injection hc' with hc'
      injection hc' with z1 z2 z3
      subst z1 z2 z3
      exact ⟨Nat.le_refl _, fun e => by cases e⟩
  have hnew := snew_any w3 (b + 3) (some ⟨b + 1 + 1, 0, none⟩) 2 2 aRs hrecs hcp hz3' (by intro r hr; rcases List.mem_cons.1 hr with rfl | hr; exact ⟨by decide, by decide⟩; rcases List.mem_cons.1 hr with rfl | hr; exact ⟨by decide, by decide⟩; cases hr) (by omega) (by decide) (by decide) 8 20 4 (by omega) ⟨by omega, by omega, by omega, aRight⟩ b (fun k => b ≤ k) (by omega) (fun k hk => by show b ≤ k; omega)
  refine hnew.mono ?_
  rintro x w4 ⟨p, rfl, hp, hS4, hb4⟩
  rw [aS0_is] at hS4
  have hbb4 := hb3.trans (hb4.mono (by omega))
  have hz4 := hb4.size
  clear hnew hcp hrecs hx0 hx1 hx2 hb3 hb4
  go_wp2_with fail
  refine (susable_any hS4).mono ?_
  rintro x w4' ⟨rfl, rfl⟩
  go_wp2_with fail
  refine (stake_any hS4).mono ?_
  rintro x w5 ⟨rfl, hS5, hF5⟩
  rw [aS1_is] at hS5 ⊢
  have hb5 := hbb4.trans (hF5.below (by omega) (fun k hk => by show ¬ b ≤ k; omega))
  have hz5 := hF5.2.2.2.1
  clear hS4 hF5 hbb4
  go_wp2_with fail
  refine (stake_any hS5).mono ?_
  rintro x w6 ⟨rfl, hS6, hF6⟩
  rw [aS2_is] at hS6 ⊢
  have hb6 := hb5.trans (hF6.below (by omega) (fun k hk => by show ¬ b ≤ k; omega))
  have hz6 := hF6.2.2.2.1
  clear hS5 hF6 hb5
  go_wp2_with fail
  refine (sgive_any hS6 4 (by omega)).mono ?_
  rintro x w7 ⟨rfl, hS7, hF7⟩
  rw [aS3_is] at hS7 ⊢
  have hb7 := hb6.trans (hF7.below (by omega) (fun k hk => by show ¬ b ≤ k; omega))
  have hz7 := hF7.2.2.2.1
  clear hS6 hF7 hb6
  go_wp2_with fail
  refine (sgive_any hS7 6 (by omega)).mono ?_
  rintro x w8 ⟨rfl, hS8, hF8⟩
  rw [aS4_is] at hS8 ⊢
  have hb8 := hb7.trans (hF8.below (by omega) (fun k hk => by show ¬ b ≤ k; omega))
  have hz8 := hF8.2.2.2.1
  clear hS7 hF8 hb7
  go_wp2_with fail
  refine (srecs_any HS hm6 w8 p aS3 b _ hS8 (by show 0 ≤ m; omega) (by show 1 ≤ m; omega) (by show 1 ≤ 1000; omega) (by intro r hr; rcases List.mem_cons.1 hr with rfl | hr; exact ⟨by decide, by decide⟩; cases hr) 9 (by omega)).mono ?_
  rintro x w9 ⟨v9, rfl, hW9, hb9⟩
  have hS9 := hS8.below hb9
  have hbb9 := hb8.trans (hb9.mono (by omega))
  have hz9 := hb9.size
  rw [aRec_is] at hW9
  obtain ⟨g, c9, rfl, hcs⟩ := hW9.cells_ (by simp)
  obtain ⟨A0, c0, e0, e1, _⟩ := hcs 0 _ rfl
  obtain ⟨A1, c1, e2, e3, e4⟩ := hcs 1 _ rfl
  obtain ⟨g1, rfl, e5⟩ := e4 (by simp)
  have e5 := e5 0 _ rfl
  simp only [Nat.zero_mul, Nat.one_mul, Nat.zero_add, Nat.reduceAdd, List.length_cons, List.length_nil] at e0 e1 e2 e3
  clear hcs e4 hS8 hb8 hW9 hb9
  have hfr := sfresh_any hS9 5 (by omega)
  go_wp2_with fail
  refine hfr.mono ?_
  rintro x w10 ⟨rfl, hb10⟩
  have hS10 := hS9.below hb10
  have hbz := hbb9.trans (hb10.mono (by omega))
  clear hS9 hbb9 hb10 e0 e1 e2 e3 e5 hfr
  go_wp2_with fail
  refine (send_any hS10).mono ?_
  rintro x w11 ⟨rfl, rfl⟩
  go_wp2_with fail
  go_ret
  exact ⟨rfl, by rw [hb]; exact hbz⟩
end Go.Proofs.Ythijobbhpbklmaa
