/- Layer 4's statements: Find among entries that rise; Get of a page; awake. -/
import Derived.Test.YtmljfjmceakahaaLGet
import Derived.Test.YtmljfjmceakahaaLFind
import Derived.Test.YtmljfjmceakahaaBCmpP
import Derived.Lib.SlBytesConst
namespace Go.Proofs.Ytmljfjmceakahaa
open Go.RowKit
set_option linter.unusedVariables false
set_option linter.unusedSimpArgs false

/-- Keys rise strictly. -/
def LStrict (es : List LE) : Prop := ∀ (i j : Nat) (a b : LE), i < j → es[i]? = some a → es[j]? = some b → Lib.compareBytes a.key b.key < 0
theorem LRight.strict {es : List LE} {S : Int} (h : LRight es S) : LStrict es := by
  have key : ∀ (d i : Nat) (a b : LE), es[i]? = some a → es[i + 1 + d]? = some b → Lib.compareBytes a.key b.key < 0 := by
    intro d
    induction d with
    | zero => intro i a b ha hb; exact ((h.2.2 (i + 1) (List.getElem?_eq_some_iff.1 hb).1) b hb).2 (by omega) a (by simpa using ha)
    | succ d ih =>
      intro i a b ha hb
      have hlt := (List.getElem?_eq_some_iff.1 hb).1
      obtain ⟨m, hm⟩ : ∃ m, es[i + 1 + d]? = some m := ⟨_, List.getElem?_eq_getElem (by omega)⟩
      have h1 := ih i a m ha hm
      have h2 := ((h.2.2 (i + 1 + (d + 1)) hlt) b hb).2 (by omega) m (by simpa [show i + 1 + (d + 1) - 1 = i + 1 + d from by omega] using hm)
      exact cmp_trans _ _ _ h1 (Int.le_of_lt h2)
  intro i j a b hij ha hb
  exact key (j - (i + 1)) i a b ha (by rw [show i + 1 + (j - (i + 1)) = j by omega]; exact hb)
theorem LStrict.mono {es : List LE} (h : LStrict es) (key : List UInt8) : ∀ i j, i ≤ j → j < es.length → lRk es key j < 0 → lRk es key i < 0 := by
  intro i j hij hj hneg
  rcases Nat.lt_or_ge i j with h1 | h1
  · obtain ⟨a, ha⟩ : ∃ a, es[i]? = some a := ⟨_, List.getElem?_eq_getElem (by omega)⟩
    obtain ⟨b, hb⟩ : ∃ b, es[j]? = some b := ⟨_, List.getElem?_eq_getElem hj⟩
    simp only [lRk, ha, hb] at hneg ⊢
    exact cmp_trans _ _ _ (h i j a b h1 ha hb) (Int.le_of_lt hneg)
  · obtain rfl : i = j := by omega
    exact hneg

/-- Find tells the first entry whose key isn't ahead of the key, and whether it is the key's. -/
theorem lfind_is (w : World) (B D : Nat) (A : Option Addr) (n c : Nat) (es : List LE) (h : LEnts w B A n es) (hBw : B ≤ w.heap.size) (hn : n ≤ 1000000) (hst : LStrict es) (A' : Option Addr) (n' c' : Nat) (key : List UInt8) (h' : Sl w D A' n' c' key) (hD : D ≤ w.heap.size)
    (i : Nat) (hi : i ≤ n) (h1 : ∀ j, j < i → lRk es key j < 0) (h2 : ∀ j, i ≤ j → j < n → 0 ≤ lRk es key j) :
    Calls Try.prog 39 #[.slice A n c, .slice A' n' c'] w fun e w' => e = .returned (.tuple #[.int .i64 (i : Int), .bool (decide (i < n ∧ lRk es key i = 0))]) ∧ Below w.heap.size w w' := by
  refine (lfind_any w B D A n c es h hBw hn A' n' c' key h' hD (by have := hst.mono key; rwa [h.1] at this)).mono ?_
  rintro e w' ⟨p, b, rfl, hp, hp1, hp2, hb, hbl⟩
  have hpi : p = i := by
    rcases Nat.lt_trichotomy p i with hh | hh | hh
    · have := h1 p hh
      have := hp2 p (Nat.le_refl _) (by omega)
      omega
    · exact hh
    · have := hp1 i hh
      have := h2 i (Nat.le_refl _) (by omega)
      omega
  subst hpi
  refine ⟨?_, hbl⟩
  have : b = decide (p < n ∧ lRk es key p = 0) := by
    rw [Bool.eq_iff_iff, hb, decide_eq_true_eq]
  rw [this]

/-- Get of a page. -/
theorem lget_page (w : World) (B : Nat) (A : Option Addr) (n c : Nat) (es : List LE) (hs : Sl w B A n c (lPut es n)) (hBw : B ≤ w.heap.size) (hn : n ≤ 140737488355328) (hR : LRight es (n : Int)) (hF : lFill es ≤ n) (hes : LOkL es) :
    Calls Try.prog 37 #[.slice A n c] w fun r w' => ∃ Av cv cs, r = .returned (.tuple #[.slice Av es.length cv, .int .i64 0]) ∧ w'.ownsRow w.heap.size 70 4 (.slice Av es.length cv) es.length cs ∧ LPs w' w.heap.size cs es ∧ Below w.heap.size w w' := by
  have hl := lPut_length es n hF
  have hp : LPage es (lPut es n) := ⟨by rw [hl]; exact hR, by rw [hl]; exact hF, by rw [hl]⟩
  refine (lget_any w B A n c _ hs hBw (by omega)).mono ?_
  rintro r w' ⟨hb, ⟨_, hno⟩ | ⟨es', Av, nv, cv, cs, rfl, hes', hp', ho, hE⟩⟩
  · exact absurd hp (hno es hes)
  · obtain rfl := hp.uniq hes hp' hes'
    have := (hE.ents ho).1
    subst this
    exact ⟨Av, cv, cs, rfl, ho, hE, hb⟩

def aw4 : List LE := [⟨[97], [120, 121], 0, 0⟩, ⟨[98], [], 3, 9⟩]
theorem aw4_right : LRight aw4 ((512 : Nat) : Int) := by
  refine ⟨by decide, by decide, ?_⟩
  intro i hi e hk
  have hi : i < 2 := hi
  rcases (by omega : i = 0 ∨ i = 1) with rfl | rfl
  · cases hk
    exact ⟨⟨by decide, by decide, by decide, by decide⟩, fun h => by omega⟩
  · cases hk
    refine ⟨⟨by decide, by decide, by decide, by decide⟩, fun _ e' h => ?_⟩
    cases h
    decide
theorem aw4_fill : lFill aw4 = 26 := by decide
theorem aw4_ok : LOkL aw4 := by
  intro e he
  simp [aw4] at he
  rcases he with rfl | rfl <;> exact ⟨by decide, by decide, by decide⟩
theorem aw4_0 : (lPut aw4 512)[0]? = some 1 := by kernel_rfl
theorem aw4_3 : (lPut aw4 512)[3]? = some 2 := by kernel_rfl
theorem aw4_511 : (lPut aw4 512)[511]? = some 121 := by kernel_rfl

abbrev aw4O (a : Nat) : Obj := .cells #[.slice (some ⟨a, 0, none⟩) 1 1, .slice (some ⟨a + 1, 0, none⟩) 2 2, .int .i64 0, .int .u32 0, .slice (some ⟨a + 1 + 1, 0, none⟩) 1 1, .slice none 0 0, .int .i64 3, .int .u32 9] 70
abbrev aw4W (w : World) : World := (((w.alloc (.cells #[.int .u8 97] 5 (1, 2))).alloc (.cells #[.int .u8 120, .int .u8 121] 5 (2, 3))).alloc (.cells #[.int .u8 98] 5 (1, 2))).alloc (aw4O w.heap.size)
theorem aw4_ents (w : World) : LEnts (aw4W w) (w.heap.size + 1 + 1 + 1 + 1) (some ⟨w.heap.size + 1 + 1 + 1, 0, none⟩) 2 aw4 := by
  have s1 := Sl.lit w [97] #[.int .u8 97] rfl 1 rfl (1, 2)
  have s2 := Sl.lit (w.alloc (.cells #[.int .u8 97] 5 (1, 2))) [120, 121] #[.int .u8 120, .int .u8 121] rfl 2 rfl (2, 3)
  have s3 := Sl.lit ((w.alloc (.cells #[.int .u8 97] 5 (1, 2))).alloc (.cells #[.int .u8 120, .int .u8 121] 5 (2, 3))) [98] #[.int .u8 98] rfl 1 rfl (1, 2)
  have hb := heap_alloc_new (((w.alloc (.cells #[.int .u8 97] 5 (1, 2))).alloc (.cells #[.int .u8 120, .int .u8 121] 5 (2, 3))).alloc (.cells #[.int .u8 98] 5 (1, 2))) (aw4O w.heap.size)
  simp only [World.size_alloc] at hb s2 s3
  have t1 := ((s1.below ((Below.refl (w.heap.size + 1) _).alloc (by simp) (.cells #[.int .u8 120, .int .u8 121] 5 (2, 3)))).below ((Below.refl (w.heap.size + 1) _).alloc (by simp) (.cells #[.int .u8 98] 5 (1, 2)))).below ((Below.refl (w.heap.size + 1) _).alloc (by simp <;> omega) (aw4O w.heap.size))
  have t2 := (s2.below ((Below.refl (w.heap.size + 1 + 1) _).alloc (by simp) (.cells #[.int .u8 98] 5 (1, 2)))).below ((Below.refl (w.heap.size + 1 + 1) _).alloc (by simp) (aw4O w.heap.size))
  have t3 := s3.below ((Below.refl (w.heap.size + 1 + 1 + 1) _).alloc (by simp) (aw4O w.heap.size))
  refine ⟨rfl, fun i e hi => ?_⟩
  have hl := (List.getElem?_eq_some_iff.1 hi).1
  have hl : i < 2 := hl
  rcases (by omega : i = 0 ∨ i = 1) with rfl | rfl
  · cases hi
    exact ⟨⟨by decide, by decide, by decide⟩, _, _, 1, 1, _, 2, 2, rfl, by show w.heap.size + 1 + 1 + 1 < _; omega, blk_cell hb 0, blk_cell hb 1, blk_cell hb 2, blk_cell hb 3, t1.more (by omega), t2.more (by omega)⟩
  · cases hi
    exact ⟨⟨by decide, by decide, by decide⟩, _, _, 1, 1, none, 0, 0, rfl, by show w.heap.size + 1 + 1 + 1 < _; omega, blk_cell hb 4, blk_cell hb 5, blk_cell hb 6, blk_cell hb 7, t3.more (by omega), Sl.nil_ _ _⟩

set_option maxRecDepth 100000 in
set_option maxHeartbeats 2000000 in
theorem awake4 (w : World) : Calls Try.prog 26 #[] w fun e w' => e = .returned (.bool true) ∧ Below w.heap.size w w' := by
  have kc := fun (w : World) (C : Array Value) (n c : Nat) => Lib.run_convert_bytes_const (P := Try.prog) w 23 5 C n c Try.underlying23 Try.underlying5
  have kc1 := fun (w : World) (o : Obj) (C : Array Value) (n c : Nat) => kc (w.alloc o) C n c
  have kc2 := fun (w : World) (o o' : Obj) (C : Array Value) (n c : Nat) => kc ((w.alloc o).alloc o') C n c
  simp only [World.size_alloc] at kc1 kc2
  go_enter Try.func26, Try.ntmps26
  go_wp2_with fail
  have hE0 := aw4_ents w
  have hb0 : Below w.heap.size w (aw4W w) := ((((Below.refl _ w).alloc (Nat.le_refl _) _).alloc (by simp) _).alloc (by simp; omega) _).alloc (by simp; omega) _
  have hz0 : w.heap.size + 1 + 1 + 1 + 1 ≤ (aw4W w).heap.size := by simp
  change Calls _ _ _ (aw4W w) _
  generalize aw4W w = W0 at hE0 hb0 hz0 ⊢
  obtain ⟨q, hq⟩ : ∃ q, w.heap.size + 1 + 1 + 1 = q := ⟨_, rfl⟩
  rw [hq] at hE0 hz0 ⊢
  clear kc1 kc2 hq
  refine (lput_ok W0 _ _ 2 2 aw4 hE0 hz0 (by omega) 512 aw4_right (by rw [aw4_fill]; omega)).mono ?_
  rintro e w1 ⟨g, rfl, hg, hr1, hb1'⟩
  have hb1 := hb0.trans (hb1'.mono hb0.size)
  have hE1 := hE0.below (hb1'.mono hz0)
  have hz1 := Nat.le_trans hz0 hb1'.size
  have hs1 := hr1.slN (n := 512) (lPut_length aw4 512 (by rw [aw4_fill]; omega)) (by omega)
  clear hE0 hb0 hz0 hb1'
  go_wp2_with fail
  refine (lget_page w1 _ _ 512 512 aw4 hs1 (Nat.le_refl _) (by omega) aw4_right (by rw [aw4_fill]; omega) aw4_ok).mono ?_
  rintro e w2 ⟨Av, cv, cs, rfl, hGo, hGp, hb2'⟩
  have hb2 := hb1.trans (hb2'.mono hb1.size)
  have hE2 := hE1.below (hb2'.mono hz1)
  have hz2 := Nat.le_trans hz1 hb2'.size
  have hr2 := hr1.below hb2' hr1.lt
  have hG := hGp.ents hGo
  have had : aw4.length = 2 := rfl
  rw [had] at hG ⊢
  clear hr1 hE1 hb1 hs1 hb2' hGo hGp
  go_wp2_with fail
  have ha2 : Below w2.heap.size w2 (w2.alloc (.cells #[.int .u8 98] 5 (1, 2))) := (Below.refl _ _).alloc (Nat.le_refl _) _
  refine (lfind_is _ _ _ _ _ _ aw4 (hE2.below (ha2.mono hz2)) (by simp; omega) (by omega) aw4_right.strict _ _ _ [98] (Sl.lit w2 [98] _ rfl 1 rfl (1, 2)) (by simp) 1 (by omega) (fun j h1 => by obtain rfl : j = 0 := (by omega); decide) (fun j h1 h2 => by obtain rfl : j = 1 := (by omega); decide)).mono ?_
  rintro e w3 ⟨rfl, hb3'⟩
  rw [show decide (1 < 2 ∧ lRk aw4 [98] 1 = 0) = true by decide]
  have hb23 : Below w2.heap.size w2 w3 := ha2.trans (hb3'.mono (by simp))
  have hb3 := hb2.trans (hb23.mono hb2.size)
  have hE3 := hE2.below (hb23.mono hz2)
  have hz3 : q + 1 ≤ w3.heap.size := Nat.le_trans hz2 hb23.size
  have hr3 := hr2.below hb23 hr2.lt
  have c0 := hr3.cell aw4_0
  have c3 := hr3.cell aw4_3
  have c511 := hr3.cell aw4_511
  have hG3 := hG.below hb23
  obtain ⟨e, ad, Ak, nk, ck, Ax, nx, cx, h1, _, rfl, hl⟩ := hG3.at_ (i := 1) (by decide)
  cases h1
  obtain ⟨_, _, l2, l3⟩ := hl.cells
  have l2 : w3.cell? ⟨ad.block, ad.off + 4 + 2, none⟩ = some (.int .i64 3) := l2
  have l3 : w3.cell? ⟨ad.block, ad.off + 4 + 3, none⟩ = some (.int .u32 9) := l3
  clear hE2 hb2 hz2 ha2 hb3' hb23 hG hG3 hr2 hr3 hl kc
  go_wp2_with (first | (go_at_call 41; refine (most_any _ 512 (by omega) (by omega)).mono ?_; rintro r w' ⟨rfl, rfl⟩))
  refine (lfill_any _ _ _ _ _ aw4 hE3 hz3 (by omega) (by intro e he; simp [aw4] at he; rcases he with rfl | rfl <;> simp)).mono ?_
  rintro e w6 ⟨rfl, hb6'⟩
  have hb6 := hb3.trans (hb6'.mono hb3.size)
  rw [aw4_fill]
  clear hE3 hb3 hb6'
  go_wp2_with fail
  go_ret
  exact ⟨rfl, hb6⟩

end Go.Proofs.Ytmljfjmceakahaa
