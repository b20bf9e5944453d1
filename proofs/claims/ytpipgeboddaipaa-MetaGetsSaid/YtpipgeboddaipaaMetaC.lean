/- Package meta: Choose. -/
import Derived.Test.YtpipgeboddaipaaMetaG
namespace Go.Proofs.Ytpipgeboddaipaa
open Go.RowKit
set_option linter.unusedVariables false
set_option linter.unusedSimpArgs false

abbrev M4 := Nat × Nat × Nat × Nat
/-- One page more is looked at. -/
def mStep (i : Nat) (l : List UInt8) (o : M4) : M4 :=
  match (mGet l).1 with
  | some m => if (mGet l).2 = 0 ∧ m.1 % 2 = i ∧ o.1 < m.1 then m else o
  | none => o
def mChosen (a b : List UInt8) : M4 := mStep 1 b (mStep 0 a (0, 0, 0, 0))
def mCells (o : M4) : Array Value := #[.int .u64 (o.1 : Int), .int .u32 (o.2.1 : Int), .int .u32 (o.2.2.1 : Int), .int .u32 (o.2.2.2 : Int)]
theorem mStep_zero (i : Nat) (l : List UInt8) (o : M4) (h : o.1 = 0 → o = (0, 0, 0, 0)) : (mStep i l o).1 = 0 → mStep i l o = (0, 0, 0, 0) := by
  unfold mStep
  split
  · split
    · rename_i hh
      intro hz
      have := hh.2.2
      omega
    · exact h
  · exact h
theorem mChosen_zero (a b : List UInt8) : (mChosen a b).1 = 0 → mChosen a b = (0, 0, 0, 0) := mStep_zero 1 b _ (mStep_zero 0 a _ (fun _ => rfl))
theorem numAt_lt (l : List UInt8) (p s : Nat) : numAt l p s < 256 ^ s := by
  unfold numAt
  refine Nat.lt_of_lt_of_le (be_lt _) (Nat.pow_le_pow_right (by decide) ?_)
  rw [List.length_take]
  omega
theorem mGet_cases (l : List UInt8) : (∃ t e m f : Nat, mGet l = (some (t, e, m, f), 0) ∧ MRight t e m f ∧ t < 18446744073709551616 ∧ e < 4294967296 ∧ m < 4294967296 ∧ f < 4294967296) ∨ (∃ x : Int, mGet l = (none, x) ∧ (x = 11 ∨ x = 14)) := by
  unfold mGet
  split
  · exact .inr ⟨11, rfl, .inl rfl⟩
  · split
    · exact .inr ⟨11, rfl, .inl rfl⟩
    · split
      · exact .inr ⟨14, rfl, .inr rfl⟩
      · split
        · exact .inr ⟨11, rfl, .inl rfl⟩
        · rename_i hr
          exact .inl ⟨_, _, _, _, rfl, Decidable.not_not.1 hr, numAt_lt l 8 8, numAt_lt l 16 4, numAt_lt l 20 4, numAt_lt l 24 4⟩

set_option maxRecDepth 20000 in
set_option maxHeartbeats 2000000 in
theorem mchoose_any (w : World) (A : Option Addr) (n c : Nat) (a : List UInt8) (A' : Option Addr) (n' c' : Nat) (b : List UInt8) (ha : Sl w w.heap.size A n c a) (hb : Sl w w.heap.size A' n' c' b) (hn : n ≤ 140737488355328) (hn' : n' ≤ 140737488355328) :
    Calls Try.prog 21 #[.slice A n c, .slice A' n' c'] w fun r w' => r = .returned (.tuple #[.agg (mCells (mChosen a b)), .int .i64 (if (mChosen a b).1 = 0 then 24 else 0)]) ∧ Below w.heap.size w w' := by
  have i0 : ∀ w, (Instr.index 76 (.agg #[.slice A n c, .slice A' n' c']) (.int .i64 0)).run Try.prog w = .ok (.slice A n c) w := fun _ => by kernel_rfl
  have i1 : ∀ w, (Instr.index 76 (.agg #[.slice A n c, .slice A' n' c']) (.int .i64 1)).run Try.prog w = .ok (.slice A' n' c') w := fun _ => by kernel_rfl
  obtain ⟨ER, hER⟩ : ∃ ER : Int, (if (mChosen a b).1 = 0 then (24 : Int) else 0) = ER := ⟨_, rfl⟩
  rw [hER]
  have HER := Lib.hid hER
  clear hER
  go_enter Try.func21, Try.ntmps21
  go_wp2_with fail
  go_loopw [14] (fun i wr => ∃ (k : Nat) (o : M4), k ≤ 2 ∧ i = .int .i64 (k : Int) ∧ wr.heap[w.heap.size]? = some (.cells #[.int .u64 0, .int .u32 0, .int .u32 0, .int .u32 0] 29 (0, 0)) ∧ wr.heap[w.heap.size + 1]? = some (.cells (mCells o) 29 (0, 0)) ∧ Below w.heap.size w wr ∧ o.1 < 18446744073709551616 ∧ (k = 0 → o = (0, 0, 0, 0)) ∧ (k = 1 → o = mStep 0 a (0, 0, 0, 0)) ∧ (k = 2 → o = mChosen a b)) (fun i _ => 2 - (intOf i).toNat)
  case atStart =>
    refine ⟨0, (0, 0, 0, 0), by omega, rfl, blk_alloc (heap_alloc_new w _) _, ?_, ((Below.refl _ _).alloc (Nat.le_refl _) _).alloc (by simp) _, by decide, fun _ => rfl, fun h => absurd h (by omega), fun h => absurd h (by omega)⟩
    simpa [mCells] using heap_alloc_new (w.alloc (.cells #[.int .u64 0, .int .u32 0, .int .u32 0, .int .u32 0] 29)) (.cells #[.int .u64 0, .int .u32 0, .int .u32 0, .int .u32 0] 29)
  case round =>
    obtain ⟨k, o, hk, rfl, hr, ho, hbw, hol, h0, h1, h2⟩ := hrel
    have hk3 : k = 0 ∨ k = 1 ∨ k = 2 := by omega
    obtain ⟨o1, o2, o3, o4⟩ := o
    rcases hk3 with rfl | rfl | rfl
    · have hprev := h0 rfl
      have HPREV := Lib.hid hprev
      clear h0 h1 h2 hk hprev
      go_wp2_with fail
      refine (mget_any _ _ _ _ _ a (ha.below hbw) hn).mono ?_
      rintro r w2 ⟨rfl, hb2'⟩
      have hr2 := blk_below hr hb2' (blk_lt hr)
      have ho2 := blk_below ho hb2' (blk_lt ho)
      have hb2 := hbw.trans (hb2'.mono hbw.size)
      clear hr ho hbw hb2'
      rcases mGet_cases a with ⟨t, e, m, f, hg, _, ht, he, hm, hf⟩ | ⟨x, hg, hx⟩
      · rw [hg, show metaV ((some (t, e, m, f), (0 : Int)) : Option M4 × Int).1 = Value.agg #[.int .u64 (t : Int), .int .u32 (e : Int), .int .u32 (m : Int), .int .u32 (f : Int)] from rfl, show ((some (t, e, m, f), (0 : Int)) : Option M4 × Int).2 = 0 from rfl]
        have hr3 := blk_alloc hr2 (.cells #[.int .u64 (t : Int), .int .u32 (e : Int), .int .u32 (m : Int), .int .u32 (f : Int)] 29)
        have ho3 := blk_alloc ho2 (.cells #[.int .u64 (t : Int), .int .u32 (e : Int), .int .u32 (m : Int), .int .u32 (f : Int)] 29)
        have hb3 := hb2.alloc hb2.size (.cells #[.int .u64 (t : Int), .int .u32 (e : Int), .int .u32 (m : Int), .int .u32 (f : Int)] 29)
        have hn3 := heap_alloc_new w2 (.cells #[.int .u64 (t : Int), .int .u32 (e : Int), .int .u32 (m : Int), .int .u32 (f : Int)] 29)
        obtain ⟨⟨a0, a1, a2, a3⟩, g0, g1, g2, g3⟩ := cell4 (show (w2.alloc (.cells #[.int .u64 (t : Int), .int .u32 (e : Int), .int .u32 (m : Int), .int .u32 (f : Int)] 29)).heap[w.heap.size + 1]? = some (.cells #[.int .u64 (o1 : Int), .int .u32 (o2 : Int), .int .u32 (o3 : Int), .int .u32 (o4 : Int)] 29 (0, 0)) from ho3)
        by_cases c1 : t % 2 = 0
        · have k1 : (((t % 2 : Nat) : Int) == 0) = true := by rw [c1]; rfl
          have k1' : (((t : Int) % 2) == 0) = true := by have : (t : Int) % 2 = 0 := by omega
                                                         rw [this]; rfl
          by_cases c2 : o1 < t
          · have he2 : mStep 0 a (o1, o2, o3, o4) = (t, e, m, f) := by simp [mStep, hg, c1, c2]
            have HE : Hid ((t, e, m, f) = mStep 0 a (0, 0, 0, 0)) := Lib.hid (he2.symm.trans (congrArg (mStep 0 a) HPREV.out))
            have d1 : decide ((o1 : Int) < (t : Int)) = true := decide_eq_true (by omega)
            have d1n : decide (o1 < t) = true := decide_eq_true c2
            clear hg he2 c1 hr2 ho2 hb2 HPREV
            go_wp2_with (first | (go_at_call 16; refine (slot_any _ t ht).mono ?_; rintro r w' ⟨rfl, rfl⟩))
            have hr4 : ((((((w2.alloc (.cells #[.int .u64 (t : Int), .int .u32 (e : Int), .int .u32 (m : Int), .int .u32 (f : Int)] 29)).setCell ⟨w.heap.size + 1, 0, none⟩ (.int .u64 (t : Int))).setCell ⟨w.heap.size + 1, 1, none⟩ (.int .u32 (e : Int))).setCell ⟨w.heap.size + 1, 2, none⟩ (.int .u32 (m : Int))).setCell ⟨w.heap.size + 1, 3, none⟩ (.int .u32 (f : Int)))).heap[w.heap.size]? = _ := blk_far (blk_far (blk_far (blk_far hr3 (by simp) _) (by simp) _) (by simp) _) (by simp) _
            exact ⟨⟨1, (t, e, m, f), by omega, rfl, hr4, set4 ho3 _ _ _ _, below4 hb3 (by omega) _ _ _ _, ht, fun h => absurd h (by omega), fun _ => HE.out, fun h => absurd h (by omega)⟩, by simp [intOf]⟩
          · have he2 : mStep 0 a (o1, o2, o3, o4) = (o1, o2, o3, o4) := by simp [mStep, hg, c1, c2]
            have HE : Hid ((o1, o2, o3, o4) = mStep 0 a (0, 0, 0, 0)) := Lib.hid (he2.symm.trans (congrArg (mStep 0 a) HPREV.out))
            have d1 : decide ((o1 : Int) < (t : Int)) = false := decide_eq_false (by omega)
            have d1n : decide (o1 < t) = false := decide_eq_false c2
            clear hg he2 c1 hr2 ho2 hb2 HPREV
            go_wp2_with (first | (go_at_call 16; refine (slot_any _ t ht).mono ?_; rintro r w' ⟨rfl, rfl⟩))
            exact ⟨⟨1, (o1, o2, o3, o4), by omega, rfl, hr3, ho3, hb3, hol, fun h => absurd h (by omega), fun _ => HE.out, fun h => absurd h (by omega)⟩, by simp [intOf]⟩
        · have k1 : (((t % 2 : Nat) : Int) == 0) = false := by simp; omega
          have k1' : (((t : Int) % 2) == 0) = false := by simp; omega
          have he2 : mStep 0 a (o1, o2, o3, o4) = (o1, o2, o3, o4) := by simp [mStep, hg, c1]
          have HE : Hid ((o1, o2, o3, o4) = mStep 0 a (0, 0, 0, 0)) := Lib.hid (he2.symm.trans (congrArg (mStep 0 a) HPREV.out))
          clear hg he2 c1 hr2 ho2 hb2 HPREV
          go_wp2_with (first | (go_at_call 16; refine (slot_any _ t ht).mono ?_; rintro r w' ⟨rfl, rfl⟩))
          exact ⟨⟨1, (o1, o2, o3, o4), by omega, rfl, hr3, ho3, hb3, hol, fun h => absurd h (by omega), fun _ => HE.out, fun h => absurd h (by omega)⟩, by simp [intOf]⟩
      · have he2 : mStep 0 a (o1, o2, o3, o4) = (o1, o2, o3, o4) := by simp [mStep, hg]
        have HE : Hid ((o1, o2, o3, o4) = mStep 0 a (0, 0, 0, 0)) := Lib.hid (he2.symm.trans (congrArg (mStep 0 a) HPREV.out))
        rw [hg, show metaV ((none, x) : Option M4 × Int).1 = Value.agg #[.int .u64 0, .int .u32 0, .int .u32 0, .int .u32 0] from rfl, show ((none, x) : Option M4 × Int).2 = x from rfl]
        have hr3 := blk_alloc hr2 (.cells #[.int .u64 0, .int .u32 0, .int .u32 0, .int .u32 0] 29)
        have ho3 := blk_alloc ho2 (.cells #[.int .u64 0, .int .u32 0, .int .u32 0, .int .u32 0] 29)
        have hb3 := hb2.alloc hb2.size (.cells #[.int .u64 0, .int .u32 0, .int .u32 0, .int .u32 0] 29)
        clear hg he2 HPREV
        rcases hx with rfl | rfl
        · go_wp2_with fail
          exact ⟨⟨1, (o1, o2, o3, o4), by omega, rfl, hr3, ho3, hb3, hol, fun h => absurd h (by omega), fun _ => HE.out, fun h => absurd h (by omega)⟩, by simp [intOf]⟩
        · go_wp2_with fail
          exact ⟨⟨1, (o1, o2, o3, o4), by omega, rfl, hr3, ho3, hb3, hol, fun h => absurd h (by omega), fun _ => HE.out, fun h => absurd h (by omega)⟩, by simp [intOf]⟩
    · have hprev := h1 rfl
      have HPREV := Lib.hid hprev
      clear h0 h1 h2 hk hprev
      go_wp2_with fail
      refine (mget_any _ _ _ _ _ b (hb.below hbw) hn').mono ?_
      rintro r w2 ⟨rfl, hb2'⟩
      have hr2 := blk_below hr hb2' (blk_lt hr)
      have ho2 := blk_below ho hb2' (blk_lt ho)
      have hb2 := hbw.trans (hb2'.mono hbw.size)
      clear hr ho hbw hb2'
      rcases mGet_cases b with ⟨t, e, m, f, hg, _, ht, he, hm, hf⟩ | ⟨x, hg, hx⟩
      · rw [hg, show metaV ((some (t, e, m, f), (0 : Int)) : Option M4 × Int).1 = Value.agg #[.int .u64 (t : Int), .int .u32 (e : Int), .int .u32 (m : Int), .int .u32 (f : Int)] from rfl, show ((some (t, e, m, f), (0 : Int)) : Option M4 × Int).2 = 0 from rfl]
        have hr3 := blk_alloc hr2 (.cells #[.int .u64 (t : Int), .int .u32 (e : Int), .int .u32 (m : Int), .int .u32 (f : Int)] 29)
        have ho3 := blk_alloc ho2 (.cells #[.int .u64 (t : Int), .int .u32 (e : Int), .int .u32 (m : Int), .int .u32 (f : Int)] 29)
        have hb3 := hb2.alloc hb2.size (.cells #[.int .u64 (t : Int), .int .u32 (e : Int), .int .u32 (m : Int), .int .u32 (f : Int)] 29)
        have hn3 := heap_alloc_new w2 (.cells #[.int .u64 (t : Int), .int .u32 (e : Int), .int .u32 (m : Int), .int .u32 (f : Int)] 29)
        obtain ⟨⟨a0, a1, a2, a3⟩, g0, g1, g2, g3⟩ := cell4 (show (w2.alloc (.cells #[.int .u64 (t : Int), .int .u32 (e : Int), .int .u32 (m : Int), .int .u32 (f : Int)] 29)).heap[w.heap.size + 1]? = some (.cells #[.int .u64 (o1 : Int), .int .u32 (o2 : Int), .int .u32 (o3 : Int), .int .u32 (o4 : Int)] 29 (0, 0)) from ho3)
        by_cases c1 : t % 2 = 1
        · have k1 : (((t % 2 : Nat) : Int) == 1) = true := by rw [c1]; rfl
          have k1' : (((t : Int) % 2) == 1) = true := by have : (t : Int) % 2 = 1 := by omega
                                                         rw [this]; rfl
          by_cases c2 : o1 < t
          · have he2 : mStep 1 b (o1, o2, o3, o4) = (t, e, m, f) := by simp [mStep, hg, c1, c2]
            have HE : Hid ((t, e, m, f) = mChosen a b) := Lib.hid (he2.symm.trans (congrArg (mStep 1 b) HPREV.out))
            have d1 : decide ((o1 : Int) < (t : Int)) = true := decide_eq_true (by omega)
            have d1n : decide (o1 < t) = true := decide_eq_true c2
            clear hg he2 c1 hr2 ho2 hb2 HPREV
            go_wp2_with (first | (go_at_call 16; refine (slot_any _ t ht).mono ?_; rintro r w' ⟨rfl, rfl⟩))
            have hr4 : ((((((w2.alloc (.cells #[.int .u64 (t : Int), .int .u32 (e : Int), .int .u32 (m : Int), .int .u32 (f : Int)] 29)).setCell ⟨w.heap.size + 1, 0, none⟩ (.int .u64 (t : Int))).setCell ⟨w.heap.size + 1, 1, none⟩ (.int .u32 (e : Int))).setCell ⟨w.heap.size + 1, 2, none⟩ (.int .u32 (m : Int))).setCell ⟨w.heap.size + 1, 3, none⟩ (.int .u32 (f : Int)))).heap[w.heap.size]? = _ := blk_far (blk_far (blk_far (blk_far hr3 (by simp) _) (by simp) _) (by simp) _) (by simp) _
            exact ⟨⟨2, (t, e, m, f), by omega, rfl, hr4, set4 ho3 _ _ _ _, below4 hb3 (by omega) _ _ _ _, ht, fun h => absurd h (by omega), fun h => absurd h (by omega), fun _ => HE.out⟩, by simp [intOf]⟩
          · have he2 : mStep 1 b (o1, o2, o3, o4) = (o1, o2, o3, o4) := by simp [mStep, hg, c1, c2]
            have HE : Hid ((o1, o2, o3, o4) = mChosen a b) := Lib.hid (he2.symm.trans (congrArg (mStep 1 b) HPREV.out))
            have d1 : decide ((o1 : Int) < (t : Int)) = false := decide_eq_false (by omega)
            have d1n : decide (o1 < t) = false := decide_eq_false c2
            clear hg he2 c1 hr2 ho2 hb2 HPREV
            go_wp2_with (first | (go_at_call 16; refine (slot_any _ t ht).mono ?_; rintro r w' ⟨rfl, rfl⟩))
            exact ⟨⟨2, (o1, o2, o3, o4), by omega, rfl, hr3, ho3, hb3, hol, fun h => absurd h (by omega), fun h => absurd h (by omega), fun _ => HE.out⟩, by simp [intOf]⟩
        · have k1 : (((t % 2 : Nat) : Int) == 1) = false := by simp; omega
          have k1' : (((t : Int) % 2) == 1) = false := by simp; omega
          have he2 : mStep 1 b (o1, o2, o3, o4) = (o1, o2, o3, o4) := by simp [mStep, hg, c1]
          have HE : Hid ((o1, o2, o3, o4) = mChosen a b) := Lib.hid (he2.symm.trans (congrArg (mStep 1 b) HPREV.out))
          clear hg he2 c1 hr2 ho2 hb2 HPREV
          go_wp2_with (first | (go_at_call 16; refine (slot_any _ t ht).mono ?_; rintro r w' ⟨rfl, rfl⟩))
          exact ⟨⟨2, (o1, o2, o3, o4), by omega, rfl, hr3, ho3, hb3, hol, fun h => absurd h (by omega), fun h => absurd h (by omega), fun _ => HE.out⟩, by simp [intOf]⟩
      · have he2 : mStep 1 b (o1, o2, o3, o4) = (o1, o2, o3, o4) := by simp [mStep, hg]
        have HE : Hid ((o1, o2, o3, o4) = mChosen a b) := Lib.hid (he2.symm.trans (congrArg (mStep 1 b) HPREV.out))
        rw [hg, show metaV ((none, x) : Option M4 × Int).1 = Value.agg #[.int .u64 0, .int .u32 0, .int .u32 0, .int .u32 0] from rfl, show ((none, x) : Option M4 × Int).2 = x from rfl]
        have hr3 := blk_alloc hr2 (.cells #[.int .u64 0, .int .u32 0, .int .u32 0, .int .u32 0] 29)
        have ho3 := blk_alloc ho2 (.cells #[.int .u64 0, .int .u32 0, .int .u32 0, .int .u32 0] 29)
        have hb3 := hb2.alloc hb2.size (.cells #[.int .u64 0, .int .u32 0, .int .u32 0, .int .u32 0] 29)
        clear hg he2 HPREV
        rcases hx with rfl | rfl
        · go_wp2_with fail
          exact ⟨⟨2, (o1, o2, o3, o4), by omega, rfl, hr3, ho3, hb3, hol, fun h => absurd h (by omega), fun h => absurd h (by omega), fun _ => HE.out⟩, by simp [intOf]⟩
        · go_wp2_with fail
          exact ⟨⟨2, (o1, o2, o3, o4), by omega, rfl, hr3, ho3, hb3, hol, fun h => absurd h (by omega), fun h => absurd h (by omega), fun _ => HE.out⟩, by simp [intOf]⟩
    · have hfin := h2 rfl
      have HF := Lib.hid hfin
      clear h0 h1 h2 hk hfin
      obtain ⟨⟨a0, a1, a2, a3⟩, _⟩ := cell4 (show wr.heap[w.heap.size + 1]? = some (.cells #[.int .u64 (o1 : Int), .int .u32 (o2 : Int), .int .u32 (o3 : Int), .int .u32 (o4 : Int)] 29 (0, 0)) from ho)
      obtain ⟨⟨z0, z1, z2, z3⟩, f0, f1, f2, f3⟩ := cell4 hr
      by_cases hz : o1 = 0
      · have hall : mChosen a b = (0, 0, 0, 0) := mChosen_zero a b (by rw [← HF.out]; exact hz)
        have k1 : ((o1 : Int) == 0) = true := by rw [hz]; rfl
        have her : ER = 24 := by rw [← HER.out, hall]; rfl
        have HALL := Lib.hid hall
        have HE24 := Lib.hid her
        clear hall hz her
        go_wp2
        obtain ⟨⟨t0, t1, t2, t3⟩, _⟩ := cell4 (set4 hr (.int .u64 0) (.int .u32 0) (.int .u32 0) (.int .u32 0))
        have hb10 := below4 hbw (Nat.le_refl _) (.int .u64 0) (.int .u32 0) (.int .u32 0) (.int .u32 0)
        exact bodyPost_ret (v := .tuple #[.agg #[.int .u64 0, .int .u32 0, .int .u32 0, .int .u32 0], .int .i64 24]) (by simp [results, Try.results21, go_sem, t0, t1, t2, t3]) rfl ⟨by rw [HALL.out, HE24.out]; rfl, hb10⟩
      · have k1 : ((o1 : Int) == 0) = false := by simp; exact hz
        have hif : ER = 0 := by rw [← HER.out]; exact if_neg (by rw [← HF.out]; exact hz)
        have HIF := Lib.hid hif
        clear hif hz
        go_wp2
        obtain ⟨⟨t0, t1, t2, t3⟩, _⟩ := cell4 (set4 hr (.int .u64 (o1 : Int)) (.int .u32 (o2 : Int)) (.int .u32 (o3 : Int)) (.int .u32 (o4 : Int)))
        have hb10 := below4 hbw (Nat.le_refl _) (.int .u64 (o1 : Int)) (.int .u32 (o2 : Int)) (.int .u32 (o3 : Int)) (.int .u32 (o4 : Int))
        exact bodyPost_ret (v := .tuple #[.agg #[.int .u64 (o1 : Int), .int .u32 (o2 : Int), .int .u32 (o3 : Int), .int .u32 (o4 : Int)], .int .i64 0]) (by simp [results, Try.results21, go_sem, t0, t1, t2, t3]) rfl ⟨by rw [HIF.out, ← HF.out]; rfl, hb10⟩
end Go.Proofs.Ytpipgeboddaipaa
