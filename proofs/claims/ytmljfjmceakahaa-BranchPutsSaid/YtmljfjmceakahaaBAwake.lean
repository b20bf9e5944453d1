/- Layer 5's statements: awake; Find at a known place. -/
import Derived.Test.YtmljfjmceakahaaBGet
import Derived.Test.YtmljfjmceakahaaBFind
import Derived.Test.YtmljfjmceakahaaBCmpP
import Derived.Lib.SlBytesConst
namespace Go.Proofs.Ytmljfjmceakahaa
open Go.RowKit
set_option linter.unusedVariables false
set_option linter.unusedSimpArgs false

/-- Find tells the entry that the key leads to. -/
theorem bfind_is (w : World) (B D : Nat) (A : Option Addr) (n c : Nat) (es : List (List UInt8 × Nat)) (h : Ents w B A n es) (hBw : B ≤ w.heap.size) (hn : n ≤ 1000000) {S : Int} (hR : BRight es S) (A' : Option Addr) (n' c' : Nat) (key : List UInt8) (h' : Sl w D A' n' c' key) (hD : D ≤ w.heap.size)
    (i : Nat) (hi : i < n) (h1 : bRk es key i ≤ 0) (h2 : ∀ j, i < j → j < n → 0 < bRk es key j) :
    Calls Try.prog 23 #[.slice A n c, .slice A' n' c'] w fun e w' => e = .returned (.int .i64 (i : Int)) ∧ Below w.heap.size w w' := by
  refine (bfind_any w B D A n c es h hBw hn (by omega) A' n' c' key h' hD (fun i j hij hj => hR.strict key i j hij (by rw [h.1]; exact hj)) (hR.first key)).mono ?_
  rintro e w' ⟨p, rfl, hp, hp1, hp2, hb⟩
  refine ⟨?_, hb⟩
  rcases Nat.lt_trichotomy p i with hh | hh | hh
  · have := hp2 i hh hi
    omega
  · rw [hh]
  · have := h2 p hh hp
    omega

def aw5 : List (List UInt8 × Nat) := [([], 5), ([98], 6), ([99], 7)]
theorem aw5_right : BRight aw5 ((512 : Nat) : Int) := by
  refine ⟨by decide, by decide, by decide, ?_, ?_⟩
  · intro k x h
    cases h
    rfl
  · intro i hi k x hk
    have hi : i < 3 := hi
    rcases (by omega : i = 0 ∨ i = 1 ∨ i = 2) with rfl | rfl | rfl
    · cases hk
      exact ⟨by decide, by decide, fun h => by omega⟩
    · cases hk
      refine ⟨by decide, by decide, fun _ k' x' h => ?_⟩
      cases h
      decide
    · cases hk
      refine ⟨by decide, by decide, fun _ k' x' h => ?_⟩
      cases h
      decide
theorem aw5_fill : bFill aw5 = 27 := by decide
theorem aw5_page : BPage aw5 (bPut aw5 512) := by
  have hl := bPut_length aw5 512 (by rw [aw5_fill]; omega)
  refine ⟨by rw [hl]; exact aw5_right, by rw [hl, aw5_fill]; omega, by rw [hl]⟩
theorem aw5_0 : (bPut aw5 512)[0]? = some 2 := by kernel_rfl
theorem aw5_511 : (bPut aw5 512)[511]? = some 5 := by kernel_rfl

/-- One page tells one list of entries. -/
theorem BPage.uniq {es es' : List (List UInt8 × Nat)} {l : List UInt8} (h : BPage es l) (hes : ∀ e ∈ es, e.2 < 4294967296) (h' : BPage es' l) (hes' : ∀ e ∈ es', e.2 < 4294967296) : es = es' := by
  have := h.all hes
  rw [h'.all hes'] at this
  cases this
  rfl

/-- Get of a page. -/
theorem bget_page (w : World) (B : Nat) (A : Option Addr) (n c : Nat) (es : List (List UInt8 × Nat)) (hs : Sl w B A n c (bPut es n)) (hBw : B ≤ w.heap.size) (hn : n ≤ 140737488355328) (hR : BRight es (n : Int)) (hF : bFill es ≤ n) (hes : ∀ e ∈ es, e.2 < 4294967296) :
    Calls Try.prog 25 #[.slice A n c] w fun r w' => ∃ Av cv, r = .returned (.tuple #[.slice Av es.length cv, .int .i64 0]) ∧ Ents w' w'.heap.size Av es.length es ∧ Below w.heap.size w w' := by
  have hl := bPut_length es n hF
  have hp : BPage es (bPut es n) := ⟨by rw [hl]; exact hR, by rw [hl]; exact hF, by rw [hl]⟩
  refine (bget_any w B A n c _ hs hBw (by omega)).mono ?_
  rintro r w' ⟨hb, ⟨_, hno⟩ | ⟨es', Av, nv, cv, rfl, hes', hp', hE⟩⟩
  · exact absurd hp (hno es hes)
  · obtain rfl := hp.uniq hes hp' hes'
    have := hE.1
    subst this
    exact ⟨Av, cv, rfl, hE, hb⟩

theorem aw5_ents (w : World) : Ents (((w.alloc (.cells #[.int .u8 98] 5 (1, 2))).alloc (.cells #[.int .u8 99] 5 (1, 2))).alloc (.cells #[.slice none 0 0, .int .u32 5, .slice (some ⟨w.heap.size, 0, none⟩) 1 1, .int .u32 6, .slice (some ⟨w.heap.size + 1, 0, none⟩) 1 1, .int .u32 7] 46)) (w.heap.size + 1 + 1 + 1) (some ⟨w.heap.size + 1 + 1, 0, none⟩) 3 aw5 := by
  have s1 := Sl.lit w [98] #[.int .u8 98] rfl 1 rfl (1, 2)
  have s2 := Sl.lit (w.alloc (.cells #[.int .u8 98] 5 (1, 2))) [99] #[.int .u8 99] rfl 1 rfl (1, 2)
  have hb := heap_alloc_new ((w.alloc (.cells #[.int .u8 98] 5 (1, 2))).alloc (.cells #[.int .u8 99] 5 (1, 2))) (.cells #[.slice none 0 0, .int .u32 5, .slice (some ⟨w.heap.size, 0, none⟩) 1 1, .int .u32 6, .slice (some ⟨w.heap.size + 1, 0, none⟩) 1 1, .int .u32 7] 46)
  simp only [World.size_alloc] at hb s2
  have t1 := (s1.below ((Below.refl (w.heap.size + 1) _).alloc (by simp) (.cells #[.int .u8 99] 5 (1, 2)))).below ((Below.refl (w.heap.size + 1) _).alloc (by simp) (.cells #[.slice none 0 0, .int .u32 5, .slice (some ⟨w.heap.size, 0, none⟩) 1 1, .int .u32 6, .slice (some ⟨w.heap.size + 1, 0, none⟩) 1 1, .int .u32 7] 46))
  have t2 := s2.below ((Below.refl (w.heap.size + 1 + 1) _).alloc (by simp) (.cells #[.slice none 0 0, .int .u32 5, .slice (some ⟨w.heap.size, 0, none⟩) 1 1, .int .u32 6, .slice (some ⟨w.heap.size + 1, 0, none⟩) 1 1, .int .u32 7] 46))
  refine ⟨rfl, fun i k x hi => ?_⟩
  have hl := (List.getElem?_eq_some_iff.1 hi).1
  have hl : i < 3 := hl
  rcases (by omega : i = 0 ∨ i = 1 ∨ i = 2) with rfl | rfl | rfl
  · cases hi
    exact ⟨by omega, _, none, 0, 0, rfl, by simp, blk_cell hb 0, blk_cell hb 1, Sl.nil_ _ _⟩
  · cases hi
    exact ⟨by omega, _, _, 1, 1, rfl, by simp, blk_cell hb 2, blk_cell hb 3, t1.more (by omega)⟩
  · cases hi
    exact ⟨by omega, _, _, 1, 1, rfl, by simp, blk_cell hb 4, blk_cell hb 5, t2.more (by omega)⟩

set_option maxRecDepth 100000 in
set_option maxHeartbeats 2000000 in
theorem awake5 (w : World) : Calls Try.prog 14 #[] w fun e w' => e = .returned (.bool true) ∧ Below w.heap.size w w' := by
  have kc := fun (w : World) (C : Array Value) (n c : Nat) => Lib.run_convert_bytes_const (P := Try.prog) w 23 5 C n c Try.underlying23 Try.underlying5
  have kc1 := fun (w : World) (o : Obj) (C : Array Value) (n c : Nat) => kc (w.alloc o) C n c
  simp only [World.size_alloc] at kc1
  go_enter Try.func14, Try.ntmps14
  go_wp2_with fail
  have hE0 := aw5_ents w
  have hb0 : Below w.heap.size w (((w.alloc (.cells #[.int .u8 98] 5 (1, 2))).alloc (.cells #[.int .u8 99] 5 (1, 2))).alloc (.cells #[.slice none 0 0, .int .u32 5, .slice (some ⟨w.heap.size, 0, none⟩) 1 1, .int .u32 6, .slice (some ⟨w.heap.size + 1, 0, none⟩) 1 1, .int .u32 7] 46)) :=
    (((Below.refl _ w).alloc (Nat.le_refl _) _).alloc (by simp) _).alloc (by simp; omega) _
  have hz0 : w.heap.size + 1 + 1 + 1 ≤ (((w.alloc (.cells #[.int .u8 98] 5 (1, 2))).alloc (.cells #[.int .u8 99] 5 (1, 2))).alloc (.cells #[.slice none 0 0, .int .u32 5, .slice (some ⟨w.heap.size, 0, none⟩) 1 1, .int .u32 6, .slice (some ⟨w.heap.size + 1, 0, none⟩) 1 1, .int .u32 7] 46)).heap.size := by simp
  generalize (((w.alloc (.cells #[.int .u8 98] 5 (1, 2))).alloc (.cells #[.int .u8 99] 5 (1, 2))).alloc (.cells #[.slice none 0 0, .int .u32 5, .slice (some ⟨w.heap.size, 0, none⟩) 1 1, .int .u32 6, .slice (some ⟨w.heap.size + 1, 0, none⟩) 1 1, .int .u32 7] 46)) = W0 at hE0 hb0 hz0 ⊢
  obtain ⟨q, hq⟩ : ∃ q, w.heap.size + 1 + 1 = q := ⟨_, rfl⟩
  rw [hq] at hE0 hz0 ⊢
  clear kc1 hq
  refine (bput_ok W0 _ _ 3 3 aw5 hE0 hz0 (by omega) 512 aw5_right (by rw [aw5_fill]; omega)).mono ?_
  rintro e w1 ⟨g, rfl, hg, hr1, hb1'⟩
  have hb1 := hb0.trans (hb1'.mono hb0.size)
  have hE1 := hE0.below (hb1'.mono hz0)
  have hz1 := Nat.le_trans hz0 hb1'.size
  have hs1 := hr1.slN (n := 512) (bPut_length aw5 512 (by rw [aw5_fill]; omega)) (by omega)
  clear hE0 hb0 hz0 hb1'
  go_wp2_with fail
  refine (bget_page w1 _ _ 512 512 aw5 hs1 (Nat.le_refl _) (by omega) aw5_right (by rw [aw5_fill]; omega) (by decide)).mono ?_
  rintro e w2 ⟨Av, cv, rfl, hG, hb2'⟩
  have hb2 := hb1.trans (hb2'.mono hb1.size)
  have hE2 := hE1.below (hb2'.mono hz1)
  have hz2 := Nat.le_trans hz1 hb2'.size
  have hr2 := hr1.below hb2' hr1.lt
  have c0 := hr2.cell aw5_0
  have c511 := hr2.cell aw5_511
  obtain ⟨k, x, ad, Ak, nk, ck, h1, h2, rfl, h4, h5, h6, h7⟩ := hG.at_ (i := 2) (by decide)
  cases h1
  have h6 : w2.cell? ⟨ad.block, ad.off + 4 + 1, none⟩ = some (.int .u32 7) := h6
  clear h5
  have had : aw5.length = 3 := rfl
  rw [had]
  clear hG hr2 hr1 hE1 hb1 hs1 hb2' h7
  go_wp2_with fail
  have ha2 : Below w2.heap.size w2 (w2.alloc (.cells #[.int .u8 98] 5 (1, 2))) := (Below.refl _ _).alloc (Nat.le_refl _) _
  refine (bfind_is _ _ _ _ _ _ aw5 (hE2.below (ha2.mono hz2)) (by simp; omega) (by omega) aw5_right _ _ _ [98] (Sl.lit w2 [98] _ rfl 1 rfl (1, 2)) (by simp) 1 (by omega) (by decide) (fun j h1 h2 => by obtain rfl : j = 2 := (by omega); decide)).mono ?_
  rintro e w3 ⟨rfl, hb3'⟩
  have hb3 := (hb2.trans (ha2.mono hb2.size)).trans (hb3'.mono (by have := hb2.size; simp; omega))
  have hE3 := (hE2.below (ha2.mono hz2)).below (hb3'.mono (by simp; omega))
  have hz3 : q + 1 ≤ w3.heap.size := by have := hb3'.size; simp at this; omega
  clear hE2 hb2 hz2 c0 c511 h6 ha2 hb3'
  go_wp2_with fail
  refine (bfind_is _ _ _ _ _ _ aw5 hE3 hz3 (by omega) aw5_right _ _ _ [] (Sl.nil_ w3 0) (by omega) 0 (by omega) (by decide) (fun j h1 h2 => by rcases (by omega : j = 1 ∨ j = 2) with rfl | rfl <;> decide)).mono ?_
  rintro e w4 ⟨rfl, hb4'⟩
  have hb4 := hb3.trans (hb4'.mono hb3.size)
  have hE4 := hE3.below (hb4'.mono hz3)
  have hz4 : q + 1 ≤ w4.heap.size := Nat.le_trans hz3 hb4'.size
  clear hE3 hb3 hz3 hb4'
  go_wp2_with fail
  have ha4 : Below w4.heap.size w4 (w4.alloc (.cells #[.int .u8 98, .int .u8 122] 5 (2, 3))) := (Below.refl _ _).alloc (Nat.le_refl _) _
  refine (bfind_is _ _ _ _ _ _ aw5 (hE4.below (ha4.mono hz4)) (by simp; omega) (by omega) aw5_right _ _ _ [98, 122] (Sl.lit w4 [98, 122] _ rfl 2 rfl (2, 3)) (by simp) 1 (by omega) (by decide) (fun j h1 h2 => by obtain rfl : j = 2 := (by omega); decide)).mono ?_
  rintro e w5 ⟨rfl, hb5'⟩
  have hb5 := (hb4.trans (ha4.mono hb4.size)).trans (hb5'.mono (by have := hb4.size; simp; omega))
  have hE5 := (hE4.below (ha4.mono hz4)).below (hb5'.mono (by simp; omega))
  have hz5 : q + 1 ≤ w5.heap.size := by have := hb5'.size; simp at this; omega
  clear hE4 hb4 hz4 ha4 hb5'
  go_wp2_with fail
  refine (bfill_any _ _ _ _ _ aw5 hE5 hz5 (by omega) (by decide)).mono ?_
  rintro e w6 ⟨rfl, hb6'⟩
  have hb6 := hb5.trans (hb6'.mono hb5.size)
  rw [aw5_fill]
  clear hE5 hb5 hb6'
  go_wp2_with fail
  go_ret
  exact ⟨rfl, hb6⟩

end Go.Proofs.Ytmljfjmceakahaa
