/- BranchFour. -/
import Derived.Test.YtmljfjmceakahaaBEntP
import Derived.Deep.DeepCutAuto
namespace Go.Proofs.Ytmljfjmceakahaa
open Go.RowKit
set_option linter.unusedVariables false
set_option linter.unusedSimpArgs false

/-- l[:m] and l[m:] of entries. -/
theorem ents_cut_h (A : Option Addr) (n c m : Nat) (hm : m ≤ n) (hc : n ≤ c) (h0 : 0 < c) :
    ∃ A' : Option Addr, (∀ W : World, (Instr.slice 26 (.slice A n c) none (some (.int .i64 (m : Int))) none).run Try.prog W = .ok (.slice A' m c) W) ∧
      ∀ (w : World) (B : Nat) (es : List (List UInt8 × Nat)), Ents w B A n es → Ents w B A' m (es.take m) := by
  obtain ⟨ib, bi0, bz0, bz1, bz2⟩ := info_parts info_ent
  refine ⟨if c = 0 then A else A.map (·.add (0 * 2)), fun W => ?_, fun w B es h => ⟨by rw [List.length_take, h.1]; omega, fun i k x hi => ?_⟩⟩
  · have hel : Try.prog.elem 26 = 46 := by simp [Program.elem, Try.underlying26]
    have hu : Try.prog.underlying 26 = some (.slice (Try.prog.elem 26)) := by rw [hel]; exact Try.underlying26
    rw [run_slice_h W _ A n c hu .i64 (m : Int) (Int.natCast_nonneg _) (by omega), hel]
    simp [sizeOf, typeInfo, bi0, bz1, sliced, Result.andThen]
  · rw [List.getElem?_take] at hi
    split at hi
    · obtain ⟨hx, ad, Ak, nk, ck, rfl, hB, h1, h2, h3⟩ := h.2 i k x hi
      refine ⟨hx, ad.add (0 * 2), Ak, nk, ck, by rw [if_neg (by omega)]; rfl, by rw [block_of_add]; exact hB, ?_, ?_, h3⟩
      · rw [add_of_add, Nat.zero_mul, Nat.zero_add]; exact h1
      · simp only [add_of_add] at h2 ⊢
        rw [show 0 * 2 + i * 2 + 1 = i * 2 + 1 by omega]; exact h2
    · cases hi
theorem ents_cut_l (A : Option Addr) (n c m : Nat) (hm : m < n) (hc : n ≤ c) :
    ∃ A' : Option Addr, (∀ W : World, (Instr.slice 26 (.slice A n c) (some (.int .i64 (m : Int))) none none).run Try.prog W = .ok (.slice A' (n - m) (c - m)) W) ∧
      ∀ (w : World) (B : Nat) (es : List (List UInt8 × Nat)), Ents w B A n es → Ents w B A' (n - m) (es.drop m) := by
  obtain ⟨ib, bi0, bz0, bz1, bz2⟩ := info_parts info_ent
  refine ⟨if c = m then A else A.map (·.add (m * 2)), fun W => ?_, fun w B es h => ⟨by rw [List.length_drop, h.1], fun i k x hi => ?_⟩⟩
  · have hel : Try.prog.elem 26 = 46 := by simp [Program.elem, Try.underlying26]
    have hu : Try.prog.underlying 26 = some (.slice (Try.prog.elem 26)) := by rw [hel]; exact Try.underlying26
    rw [run_slice_l W _ A n c hu .i64 (m : Int) (Int.natCast_nonneg _) (by omega), hel]
    simp [sizeOf, typeInfo, bi0, bz1, sliced, Result.andThen]
  · rw [List.getElem?_drop] at hi
    obtain ⟨hx, ad, Ak, nk, ck, rfl, hB, h1, h2, h3⟩ := h.2 (m + i) k x hi
    refine ⟨hx, ad.add (m * 2), Ak, nk, ck, by rw [if_neg (by omega)]; rfl, by rw [block_of_add]; exact hB, ?_, ?_, h3⟩
    · rw [add_of_add, ← Nat.add_mul]; exact h1
    · simp only [add_of_add] at h2 ⊢
      rw [show m * 2 + i * 2 + 1 = (m + i) * 2 + 1 by omega]; exact h2

/-- Entries as cells, their keys nil or at the heads of blocks of bytes. -/
def EPz (w : World) (cs : List Value) (es : List (List UInt8 × Nat)) : Prop :=
  cs.length = es.length * 2 ∧ ∀ (i : Nat) (k : List UInt8) (x : Nat), es[i]? = some (k, x) → x < 4294967296 ∧ ∃ A n c, cs[i * 2]? = some (.slice A n c) ∧ cs[i * 2 + 1]? = some (.int .u32 (x : Int)) ∧ (Kb w A n c k ∨ (A = none ∧ n = 0 ∧ c = 0 ∧ k = []))
theorem EPz.same {w w' : World} {cs : List Value} {es : List (List UInt8 × Nat)} (h : EPz w cs es) (hk : ∀ (g : Nat) (C : Array Value) (fr : Nat × Nat), w.heap[g]? = some (.cells C 5 fr) → w'.heap[g]? = w.heap[g]?) : EPz w' cs es := by
  refine ⟨h.1, fun i k x hi => ?_⟩
  obtain ⟨hx, A, n, c, h1, h2, h3⟩ := h.2 i k x hi
  exact ⟨hx, A, n, c, h1, h2, h3.imp (fun h => h.same hk) id⟩
theorem EPz.below {w w' : World} {B : Nat} {cs : List Value} {es : List (List UInt8 × Nat)} (h : EPz w cs es) (hb : Below B w w') (hB : w.heap.size ≤ B) : EPz w' cs es :=
  h.same fun g C fr hg => hb.block g (Nat.lt_of_lt_of_le (blk_lt hg) hB)
theorem EPz.snoc {w : World} {cs : List Value} {es : List (List UInt8 × Nat)} (h : EPz w cs es) {A : Option Addr} {n c : Nat} {k : List UInt8} {x : Nat} (hx : x < 4294967296) (ho : Kb w A n c k ∨ (A = none ∧ n = 0 ∧ c = 0 ∧ k = [])) :
    EPz w (cs ++ [.slice A n c, .int .u32 (x : Int)]) (es ++ [(k, x)]) := by
  refine ⟨by simp [h.1]; omega, fun i k' x' hi => ?_⟩
  have hl := h.1
  by_cases hlt : i < es.length
  · rw [List.getElem?_append_left hlt] at hi
    obtain ⟨hx', A', n', c', h1, h2, h3⟩ := h.2 i k' x' hi
    exact ⟨hx', A', n', c', by rw [List.getElem?_append_left (by omega)]; exact h1, by rw [List.getElem?_append_left (by omega)]; exact h2, h3⟩
  · have hlen := (List.getElem?_eq_some_iff.1 hi).1
    simp at hlen
    obtain rfl : i = es.length := by omega
    simp at hi
    obtain ⟨rfl, rfl⟩ := hi
    exact ⟨hx, A, n, c, by rw [← hl]; simp, by rw [← hl, List.getElem?_append_right (by omega)]; simp, ho⟩
theorem EPz.nil_ (w : World) : EPz w [] [] := ⟨rfl, by simp⟩
theorem EPz.ents {w : World} {b2 : Nat} {e : TypeId} {A : Option Addr} {n c : Nat} {cs : List Value} {es : List (List UInt8 × Nat)} (h : EPz w cs es) (hr : w.ownsRow b2 e 2 (.slice A n c) n cs) : Ents w w.heap.size A n es := by
  have hR := Reads.of_own hr
  have hl := h.1
  have hl2 := hR.1
  refine ⟨by omega, fun i k x hi => ?_⟩
  have hlt := (List.getElem?_eq_some_iff.1 hi).1
  obtain ⟨hx, Ak, nk, ck, h1, h2, h3⟩ := h.2 i k x hi
  obtain ⟨ad, rfl, hb, hc⟩ := hR.2 (by omega)
  refine ⟨hx, ad, Ak, nk, ck, rfl, hb, hc _ _ h1, by rw [add_of_add]; exact hc _ _ h2, ?_⟩
  rcases h3 with h3 | ⟨rfl, rfl, rfl, rfl⟩
  · exact h3.sl
  · exact Sl.nil_ _ _
theorem RowB.kb {w : World} {g : Nat} {l : List UInt8} (h : RowB w g l) {n c : Nat} (hn : l.length = n) (hc : n ≤ c) : Kb w (some ⟨g, 0, none⟩) n c l := by
  subst hn
  exact ⟨rfl, hc, g, _, (0, 0), rfl, h, by simp [← bv_length]⟩

def fKey (b : UInt8) (k : Nat) : List UInt8 := UInt8.ofNat (k + 1) :: List.replicate (b.toNat % 96) 0
def fEs (l : List UInt8) (x k : Nat) : List (List UInt8 × Nat) := ([], x) :: (List.range k).map fun j => (fKey (l.getD j 0) j, x)
theorem fKey_length (b : UInt8) (k : Nat) : (fKey b k).length = b.toNat % 96 + 1 := by simp [fKey]
theorem fEs_succ (l : List UInt8) (x k : Nat) {b : UInt8} (h : l[k]? = some b) : fEs l x (k + 1) = fEs l x k ++ [(fKey b k, x)] := by
  simp [fEs, List.range_succ, List.getD, h]
theorem fEs_length (l : List UInt8) (x k : Nat) : (fEs l x k).length = k + 1 := by simp [fEs]
theorem fEs_3 (l : List UInt8) (x : Nat) : fEs l x 3 = [([], x), (fKey (l.getD 0 0) 0, x), (fKey (l.getD 1 0) 1, x), (fKey (l.getD 2 0) 2, x)] := rfl
theorem fEs_fill (l : List UInt8) (x : Nat) : bFill (fEs l x 3) ≤ 512 := by
  rw [fEs_3]
  simp [bFill, fKey_length]
  omega
theorem fKey_cmp (b b' : UInt8) (k : Nat) (hk : k < 3) : Lib.compareBytes (fKey b k) (fKey b' (k + 1)) < 0 := by
  unfold fKey Lib.compareBytes
  rcases (by omega : k = 0 ∨ k = 1 ∨ k = 2) with rfl | rfl | rfl <;> (rw [if_pos (by decide)]; omega)
theorem fEs_right (l : List UInt8) (x : Nat) (hx : 2 ≤ x) (S : Int) (h1 : 512 ≤ S) (h2 : S ≤ 4096) : BRight (fEs l x 3) S := by
  refine ⟨h1, h2, by rw [fEs_length]; omega, fun k y h => by cases h; rfl, fun i hi k y hk => ?_⟩
  rw [fEs_length] at hi
  rw [fEs_3] at hk
  have fl := fun b k => fKey_length b k
  rcases (by omega : i = 0 ∨ i = 1 ∨ i = 2 ∨ i = 3) with rfl | rfl | rfl | rfl
  · cases hk
    exact ⟨hx, by simp, fun h => by omega⟩
  · cases hk
    refine ⟨hx, by rw [fl]; omega, fun _ k' y' h => ?_⟩
    rw [fEs_3] at h
    cases h
    simp [fKey, Lib.compareBytes]
  · cases hk
    refine ⟨hx, by rw [fl]; omega, fun _ k' y' h => ?_⟩
    rw [fEs_3] at h
    cases h
    exact fKey_cmp _ _ 0 (by omega)
  · cases hk
    refine ⟨hx, by rw [fl]; omega, fun _ k' y' h => ?_⟩
    rw [fEs_3] at h
    cases h
    exact fKey_cmp _ _ 1 (by omega)

set_option maxRecDepth 100000 in
set_option maxHeartbeats 2000000 in
theorem branchFour_law (w : World) (S : Int) (A : Option Addr) (n c : Nat) (l : List UInt8) (h : Sl w w.heap.size A n c l) (x : Nat) (hx : x < 4294967296) :
    Calls Try.prog 5 #[.int .i64 S, .slice A n c, .int .u32 (x : Int)] w fun e w' => e = .returned (.bool true) ∧ Below w.heap.size w w' := by
  obtain ⟨ib, bi0, bz0, bz1, bz2⟩ := info_parts info_ent
  go_enter Try.func5, Try.ntmps5
  go_wp2_with fail
  refine (awake5 w).mono ?_
  rintro e w1 ⟨rfl, hb1⟩
  have h1 := h.below hb1
  by_cases c1 : S < 512
  · go_wp2_with fail
    go_ret
    exact ⟨rfl, hb1⟩
  by_cases c2 : 4096 < S
  · go_wp2_with fail
    go_ret
    exact ⟨rfl, hb1⟩
  by_cases c3 : n < 3
  · have d3 : decide ((n : Int) < 3) = true := decide_eq_true (by omega)
    go_wp2_with fail
    go_ret
    exact ⟨rfl, hb1⟩
  have d3 : decide ((n : Int) < 3) = false := decide_eq_false (by omega)
  by_cases c4 : x < 2
  · have d4 : decide ((x : Int) < 2) = true := decide_eq_true (by omega)
    go_wp2_with fail
    go_ret
    exact ⟨rfl, hb1⟩
  have d4 : decide ((x : Int) < 2) = false := decide_eq_false (by omega)
  obtain ⟨size, rfl⟩ := Int.eq_ofNat_of_zero_le (show 0 ≤ S by omega)
  go_wp2_with fail
  have hrow0 : (w1.alloc (.cells #[.slice none 0 0, .int .u32 (x : Int)] 46)).ownsRow w.heap.size 46 2 (.slice (some ⟨w1.heap.size, 0, none⟩) 1 1) 1 [.slice none 0 0, .int .u32 (x : Int)] :=
    ⟨rfl, .inr ⟨_, 1, _, rfl, hb1.size, heap_alloc_new w1 _, Nat.le_refl _, by simp [maxLen], rfl, rfl⟩⟩
  have hep0 : EPz (w1.alloc (.cells #[.slice none 0 0, .int .u32 (x : Int)] 46)) [.slice none 0 0, .int .u32 (x : Int)] (fEs l x 0) := (EPz.nil_ _).snoc hx (.inr ⟨rfl, rfl, rfl, rfl⟩)
  go_loopw [8, 9] (fun v i wr => ∃ (k : Nat) (Av : Option Addr) (cv : Nat) (cs : List Value), i = .int .i64 (k : Int) ∧ k ≤ 3 ∧ v = .slice Av (k + 1) cv ∧ wr.ownsRow w.heap.size 46 2 (.slice Av (k + 1) cv) (k + 1) cs ∧ EPz wr cs (fEs l x k) ∧ Below w.heap.size w wr) (fun _ i _ => 3 - (intOf i).toNat)
  case atStart => exact ⟨0, some ⟨w1.heap.size, 0, none⟩, 1, _, rfl, by omega, rfl, hrow0, hep0, hb1.alloc hb1.size _⟩
  case round =>
    obtain ⟨k, Av, cv, cs, rfl, hk3, rfl, hown, hep, hbw⟩ := hrel
    clear hrow0 hep0 d3 d4 hb1
    by_cases hlt : k < 3
    · obtain ⟨ad, b, rfl, hB, hb, hc⟩ := (h.below hbw).get (show k < n by omega)
      have hbs := hbw.size
      have hkn : k < n := by omega
      obtain ⟨L, hL⟩ : ∃ L, b.toNat % 96 = L := ⟨_, rfl⟩
      have hL95 : L ≤ 95 := by omega
      have hbt := b.toNat_lt
      have hm1 : ((b.toNat : Int)).tmod 96 = (L : Int) := by rw [Int.tmod_eq_emod_of_nonneg (by omega)]; omega
      have hm2 : ((b.toNat : Int)) % 96 = (L : Int) := by omega
      have HL := Lib.hid hL
      have HB := Lib.hid hb
      clear hL hb
      go_upto_region 12 with (first | (at_make; refine wpList_make_bytesN _ rfl _ _ _ rfl Try.underlying23 info_u8 _ _ ((L : Int) + 1) rfl rfl (L + 1) (by omega) (by omega) ?_; intro w2 hr2 hb2; have hz2 := hr2.cell (i := 0) (b := 0) (by simp); have hf2 := hr2.frozen 0))
      have hq : ∃ q, wr.heap.size = q := ⟨_, rfl⟩
      have hr3 : RowB (w2.setCell ⟨wr.heap.size, 0, none⟩ (.int .u8 ((k : Int) + 1))) wr.heap.size (fKey b k) := by
        have h1 := hr2.set_ 0 (UInt8.ofNat (k + 1))
        have e1 : (UInt8.ofNat (k + 1)).toNat = k + 1 := by simp [UInt8.toNat_ofNat']; omega
        rw [e1] at h1
        have e2 : (List.replicate (L + 1) (0 : UInt8)).set 0 (UInt8.ofNat (k + 1)) = fKey b k := by unfold fKey; rw [HL.out, List.replicate_succ]; rfl
        rw [e2] at h1
        exact h1
      have hown3 : (w2.setCell ⟨wr.heap.size, 0, none⟩ (.int .u8 ((k : Int) + 1))).ownsRow w.heap.size 46 2 (.slice Av (k + 1) cv) (k + 1) cs :=
        own_setCell (own_below hown hb2 (Nat.le_refl _)) (own_neF (own_below hown hb2 (Nat.le_refl _)) (show w2.heap[wr.heap.size]? = some (.cells (bv (List.replicate (L + 1) 0)).toArray 5 (0, 0)) from hr2) (by decide)) _
      have hep3 : EPz (w2.setCell ⟨wr.heap.size, 0, none⟩ (.int .u8 ((k : Int) + 1))) cs (fEs l x k) :=
        hep.same fun g C fr hg => (Below.heap_setCell _ _ _ _ (by have := blk_lt hg; simp; omega)).trans (hb2.block g (blk_lt hg))
      have hb3 : Below w.heap.size w (w2.setCell ⟨wr.heap.size, 0, none⟩ (.int .u8 ((k : Int) + 1))) := (hbw.trans (hb2.mono hbs)).setCell (p := ⟨wr.heap.size, 0, none⟩) hbs _
      clear hz2 hf2 hc hq hm1 hm2
      generalize w2.setCell ⟨wr.heap.size, 0, none⟩ (.int .u8 ((k : Int) + 1)) = W3 at hr3 hown3 hep3 hb3 ⊢
      have hb3s := hb3.size
      clear hr2 hb2 hown hep
      go_wp2_with (first | (at_builtin; refine wpList_append_any _ rfl (.tmp 55) (.tmp 59) _ rfl w.heap.size 46 ib _ 2 32 Try.underlying26 bi0 bz0 bz1 bz2 rfl (by omega) (.slice Av (k + 1) cv) (k + 1) cs rfl (hown3.alloc _) (W3.heap.size + 1) (some ⟨W3.heap.size, 0, none⟩) 1 1 [.slice (some ⟨wr.heap.size, 0, none⟩) (L + 1) (L + 1), .int .u32 (x : Int)] rfl (Reads.two _ _ _ _) (by simp [Value.oneCell']) (by unfold maxLen; omega) (by omega) (by simp; omega) ?_; intro v4 w4 hown4 hg4 hat4; obtain ⟨A4, c4, rfl⟩ := own_slice hown4))
      have hs4 : ∀ (g : Nat) (C : Array Value) (fr : Nat × Nat), W3.heap[g]? = some (.cells C 5 fr) → w4.heap[g]? = W3.heap[g]? := fun g C fr hg => by
        have h1 := blk_alloc hg (.cells #[.slice (some ⟨wr.heap.size, 0, none⟩) (L + 1) (L + 1), .int .u32 (x : Int)] 46)
        exact ((hg4.block g (blk_lt h1) (own_neF (hown3.alloc _) h1 (by decide))).trans h1).trans hg.symm
      refine ⟨⟨k + 1, A4, c4, _, by go_num, hlt, rfl, hown4, ?_, (hb3.alloc hb3s _).grown hg4 (by simp; omega) (fun k hk => own_base hown3 k hk)⟩, by simp [intOf]; omega⟩
      rw [fEs_succ _ _ _ HB.out]
      have hkl : (fKey b k).length = L + 1 := by rw [fKey_length, HL.out]
      exact EPz.snoc (hep3.same hs4) hx (.inl ((hr3.kb hkl (Nat.le_refl _)).same hs4))
    · obtain rfl : k = 3 := by omega
      have hE := hep.ents hown
      have hcv4 : 4 ≤ cv := by
        rcases hown.2 with ⟨_, h0⟩ | ⟨_, _, _, hv, _, _, hc, _⟩
        · omega
        · cases hv; exact hc
      have hfill := fEs_fill l x
      have hR := fEs_right l x (by omega) (size : Int) (by omega) (by omega)
      obtain ⟨A1, hcut1, hE1⟩ := ents_cut_h Av 4 cv 1 (by omega) hcv4 (by omega)
      obtain ⟨A2, hcut2, hE2⟩ := ents_cut_l Av 4 cv 1 (by omega) hcv4
      have hR1 : ¬ BRight ((fEs l x 3).take 1) (size : Int) := fun hh => by have := hh.2.2.1; rw [List.length_take] at this; omega
      have hR2 : ¬ BRight ((fEs l x 3).drop 1) (size : Int) := fun hh => by
        have := hh.2.2.2.1 (fKey (l.getD 0 0) 0) x rfl
        rw [fKey_length] at this
        omega
      have hbs := hbw.size
      have hput := bput_ok wr _ Av 4 cv _ hE (Nat.le_refl _) (by omega) size hR (by omega)
      have hput1 := fun W (hW : Below wr.heap.size wr W) => bput_arg W _ A1 1 cv _ (hE1 _ _ _ (hE.below hW)) hW.size (by omega) (size : Int) hR1
      have hput2 := fun W (hW : Below wr.heap.size wr W) => bput_arg W _ A2 3 (cv - 1) _ (hE2 _ _ _ (hE.below hW)) hW.size (by omega) (size : Int) hR2
      have hcut1' : ∀ W : World, (Instr.slice 26 (.slice Av 4 cv) none (some (.int .i64 1)) none).run Try.prog W = .ok (.slice A1 1 cv) W := hcut1
      have hcut2' : ∀ W : World, (Instr.slice 26 (.slice Av 4 cv) (some (.int .i64 1)) none none).run Try.prog W = .ok (.slice A2 3 (cv - 1)) W := hcut2
      clear hfill hR hR1 hR2 hE1 hE2 hcut1 hcut2
      go_wp2_with fail
      refine hput.mono ?_
      rintro e w2 ⟨g, rfl, hg, hrow, hb2⟩
      go_wp2_with fail
      refine (hput1 _ hb2).mono ?_
      rintro e w3 ⟨rfl, hb3'⟩
      have hb3 := hb2.trans (hb3'.mono hb2.size)
      clear hput hput1 hrow
      go_wp2_with fail
      refine (hput2 _ hb3).mono ?_
      rintro e w4 ⟨rfl, hb4'⟩
      have hb4 := hb3.trans (hb4'.mono hb3.size)
      clear hput2
      go_wp2_with fail
      go_ret
      exact ⟨rfl, hbw.trans (hb4.mono hbs)⟩

end Go.Proofs.Ytmljfjmceakahaa
