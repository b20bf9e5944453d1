/- awake of layer 10. -/
import Derived.Test.YthmkmojlnfkfjaaFFlat
namespace Go.Proofs.Ythmkmojlnfkfjaa
open Go.RowKit
set_option linter.unusedVariables false
set_option linter.unusedSimpArgs false

theorem fput_is (w : World) (B : Nat) (A : Option Addr) (n c : Nat) (ps : List FP) (h : Prs w B A n ps) (hBw : B ≤ w.heap.size) (hok : FPs ps) (hn : n ≤ 9223372036854775807) (next : Nat) (hx : next < 4294967296) (size : Nat) (hR : FRight ps (size : Int)) :
    Calls Try.prog 15 #[.slice A n c, .int .u32 (next : Int), .int .i64 (size : Int)] w fun e w' => ∃ g, e = .returned (.tuple #[.slice (some ⟨g, 0, none⟩) size size, .int .i64 0]) ∧ w.heap.size ≤ g ∧ RowB w' g (fPut ps next size) ∧ Below w.heap.size w w' := by
  refine (fput_any w B A n c ps h hBw hok hn next hx (size : Int)).mono ?_
  rintro e w' ⟨hb, ⟨_, g, he, hg, hr⟩ | ⟨hno, _⟩⟩
  · exact ⟨g, he, hg, hr, hb⟩
  · exact absurd hR hno
theorem fput_no (w : World) (B : Nat) (A : Option Addr) (n c : Nat) (ps : List FP) (h : Prs w B A n ps) (hBw : B ≤ w.heap.size) (hok : FPs ps) (hn : n ≤ 9223372036854775807) (next : Nat) (hx : next < 4294967296) (S : Int) (hR : ¬ FRight ps S) :
    Calls Try.prog 15 #[.slice A n c, .int .u32 (next : Int), .int .i64 S] w fun e w' => e = .returned (.tuple #[.slice none 0 0, .int .i64 1]) ∧ Below w.heap.size w w' := by
  refine (fput_any w B A n c ps h hBw hok hn next hx S).mono ?_
  rintro e w' ⟨hb, ⟨hR', _⟩ | ⟨_, he⟩⟩
  · exact absurd hR' hR
  · exact ⟨he, hb⟩
theorem fPage_put {ps : List FP} {next size : Nat} (hok : FPs ps) (hx : next < 4294967296) (hR : FRight ps (size : Int)) : FPage ps next (fPut ps next size) := by
  have h3 := hR.2.2.1
  rw [Int.toNat_natCast] at h3
  have hr := fRoom_bounds (size := size) (by have := hR.1; omega) (by have := hR.2.1; omega)
  have hl := fPut_length ps next size (by omega)
  exact ⟨hok, hx, by rw [hl]; exact hR, by rw [hl]⟩
theorem fget_is (w : World) (B : Nat) (A : Option Addr) (n c : Nat) (l : List UInt8) (h : Sl w B A n c l) (hBw : B ≤ w.heap.size) (hn : n ≤ 140737488355328) {ps : List FP} {next : Nat} (hp : FPage ps next l) :
    Calls Try.prog 17 #[.slice A n c] w fun e w' => ∃ A c, e = .returned (.tuple #[.slice A ps.length c, .int .u32 (next : Int), .int .i64 0]) ∧ w'.ownsRow w.heap.size 51 2 (.slice A ps.length c) ps.length (PCs ps) ∧ Below w.heap.size w w' := by
  refine (fget_any w B A n c l h hBw hn).mono ?_
  rintro e w' ⟨hb, ⟨ps', next', A', c', hp', he, ho⟩ | ⟨hno, _⟩⟩
  · obtain ⟨r1, r2, r3⟩ := hp.reads
    obtain ⟨q1, q2, q3⟩ := hp'.reads
    have e1 : ps' = ps := by rw [← q3, ← q1, r1, r3]
    have e2 : next' = next := by rw [← q2, r2]
    subst e1 e2
    exact ⟨A', c', he, ho, hb⟩
  · exact absurd hp (hno ps next)

def awR : List FRc := [(3, [5, 9]), (4, [2])]
def awP : List FP := [(3, 5), (3, 9), (4, 2)]
theorem awR_flat : fFl awR = awP := rfl
theorem awP_gather : fGa awP = awR := by decide
theorem awP_ok : FPs awP := by
  intro p hp
  simp [awP] at hp
  rcases hp with rfl | rfl | rfl <;> (constructor <;> simp)
theorem awP_right : FRight awP 512 := by
  refine ⟨by omega, by omega, by decide, fun i p q hp hq => ?_⟩
  have hi := (List.getElem?_eq_some_iff.1 hq).1
  have hi : i + 1 < 3 := hi
  rcases (by omega : i = 0 ∨ i = 1) with rfl | rfl
  · cases hp; cases hq; decide
  · cases hp; cases hq; decide
@[reducible] def awW (w : World) : World := ((w.alloc (.cells #[.int .u32 5, .int .u32 9] 38)).alloc (.cells #[.int .u32 2] 38)).alloc (.cells #[.int .u64 3, .slice (some ⟨w.heap.size, 0, none⟩) 2 2, .int .u64 4, .slice (some ⟨w.heap.size + 1, 0, none⟩) 1 1] 69)
theorem awW_recs (w : World) : Recs (awW w) (w.heap.size + 3) (some ⟨w.heap.size + 2, 0, none⟩) 2 awR := by
  have e0 := heap_alloc_new w (.cells #[.int .u32 5, .int .u32 9] 38)
  have e1 := heap_alloc_new (w.alloc (.cells #[.int .u32 5, .int .u32 9] 38)) (.cells #[.int .u32 2] 38)
  have e2 := heap_alloc_new ((w.alloc (.cells #[.int .u32 5, .int .u32 9] 38)).alloc (.cells #[.int .u32 2] 38)) (.cells #[.int .u64 3, .slice (some ⟨w.heap.size, 0, none⟩) 2 2, .int .u64 4, .slice (some ⟨w.heap.size + 1, 0, none⟩) 1 1] 69)
  have f0 := blk_alloc (blk_alloc e0 (.cells #[.int .u32 2] 38)) (.cells #[.int .u64 3, .slice (some ⟨w.heap.size, 0, none⟩) 2 2, .int .u64 4, .slice (some ⟨w.heap.size + 1, 0, none⟩) 1 1] 69)
  have f1 := blk_alloc e1 (.cells #[.int .u64 3, .slice (some ⟨w.heap.size, 0, none⟩) 2 2, .int .u64 4, .slice (some ⟨w.heap.size + 1, 0, none⟩) 1 1] 69)
  simp only [World.size_alloc] at e2 f1
  refine ⟨rfl, fun i r hi => ?_⟩
  have hlt := (List.getElem?_eq_some_iff.1 hi).1
  have hlt : i < 2 := hlt
  rcases (by omega : i = 0 ∨ i = 1) with rfl | rfl
  · cases hi
    refine ⟨_, _, _, _, rfl, by show w.heap.size + 2 < _; omega, blk_cell e2 0, blk_cell e2 1, rfl, fun _ => ⟨_, rfl, by show w.heap.size < _; omega, fun j u hu => ?_⟩⟩
    rw [Addr.add_lit, Nat.zero_add]
    exact (blk_cell f0 j).trans (by simpa [Pgs] using hu)
  · cases hi
    refine ⟨_, _, _, _, rfl, by show w.heap.size + 2 < _; omega, blk_cell e2 2, blk_cell e2 3, rfl, fun _ => ⟨_, rfl, by show w.heap.size + 1 < _; omega, fun j u hu => ?_⟩⟩
    rw [Addr.add_lit, Nat.zero_add]
    exact (blk_cell f1 j).trans (by simpa [Pgs] using hu)

set_option maxRecDepth 100000 in
set_option maxHeartbeats 4000000 in
theorem awake10 (w : World) : Calls Try.prog 9 #[] w fun e w' => e = .returned (.bool true) ∧ Below w.heap.size w w' := by
  go_enter Try.func9, Try.ntmps9
  go_wp2_with fail
  have hE0 := awW_recs w
  have hb0 : Below w.heap.size w (awW w) := (((Below.refl _ w).alloc (Nat.le_refl _) _).alloc (by simp) _).alloc (by simp; omega) _
  have hz0 : w.heap.size + 1 + 1 + 1 ≤ (awW w).heap.size := by simp
  change Calls _ _ _ (awW w) _
  generalize awW w = W0 at hE0 hb0 hz0 ⊢
  refine (fflat_any W0 _ _ 2 2 awR hE0 hz0 (by omega) (by intro r hr; simp [awR] at hr; rcases hr with rfl | rfl <;> simp) (by decide)).mono ?_
  rintro e w1 ⟨Av, nv, cv, rfl, hnv, hown1, hb1'⟩
  have hnv3 : nv = 3 := hnv.out
  subst hnv3
  rw [awR_flat] at hown1
  have hb1 := hb0.trans (hb1'.mono hb0.size)
  have hp1 := Prs.of_own hown1
  clear hE0 hb0 hz0 hb1' hnv hown1
  go_wp2_with fail
  refine (fput_is w1 _ Av 3 cv awP hp1 (Nat.le_refl _) awP_ok (by omega) 7 (by omega) 512 awP_right).mono ?_
  rintro e w2 ⟨g, rfl, hg, hrow, hb2'⟩
  have hpl : (fPut awP 7 512).length = 512 := fPut_length _ _ _ (by decide)
  have hs2 := hrow.slN (n := 512) hpl (by omega)
  have hb2 := hb1.trans (hb2'.mono hb1.size)
  have hp2 := hp1.below hb2'
  have hz2 := hb2'.size
  clear hp1 hb1 hb2'
  go_wp2_with fail
  refine (fget_is w2 _ _ 512 512 _ hs2 (Nat.le_refl _) (by omega) (fPage_put (size := 512) awP_ok (by omega) awP_right)).mono ?_
  rintro e w3 ⟨A3, c3, rfl, hown3, hb3'⟩
  rw [show awP.length = 3 from rfl] at hown3 ⊢
  have hb3 := hb2.trans (hb3'.mono hb2.size)
  have hp3 := hp2.below (hb3'.mono hz2)
  have hr3 := hrow.below hb3' hrow.lt
  have hz3 := Nat.le_trans hz2 hb3'.size
  have hx3 := Prs.of_own hown3
  clear hs2 hrow hb2 hp2 hz2 hb3' hown3
  go_wp2_with fail
  refine (fgather_any w3 _ _ 3 _ awP hx3 (Nat.le_refl _) (by omega)).mono ?_
  rintro e w4 ⟨Ao, no, co, rfl, hrc, _, hb4'⟩
  rw [awP_gather] at hrc
  have hno : no = 2 := hrc.1.symm
  subst hno
  have hb4 := hb3.trans (hb4'.mono hb3.size)
  have hp4 := hp3.below (hb4'.mono hz3)
  have hr4 := hr3.below hb4' hr3.lt
  have hz4 := Nat.le_trans hz3 hb4'.size
  clear hr3 hb3 hp3 hz3 hb4' hx3
  go_wp2_with fail
  refine (fspread_any w4 _ _ 3 _ awP hp4 hz4 (by omega) 2 512).mono ?_
  rintro e w5 ⟨hb5', hcase⟩
  rcases hcase with ⟨hno, _⟩ | ⟨_, hq, _⟩ | ⟨_, _, As, cs', css, rfl, hown5, hrows⟩
  · exact absurd ⟨by omega, by omega, by omega, by omega⟩ hno
  · exact absurd hq (by decide)
  have h2 : Int.toNat 2 = 2 := rfl
  rw [h2] at hown5 hrows ⊢
  have hb5 := hb4.trans (hb5'.mono hb4.size)
  have hr5 := hr4.below hb5' hr4.lt
  have hrc5 := hrc.below hb5'
  have c0 := hr5.cell (i := 0) (b := 4) rfl
  have c3 := hr5.cell (i := 3) (b := 3) rfl
  have c7 := hr5.cell (i := 7) (b := 7) rfl
  obtain ⟨r, ad, Ap, np, cp, h1, rfl, _, l0, l1, hpr⟩ := hrc5.at_ (i := 0) (by decide)
  cases h1
  have hnp : np = 2 := by have := hpr.1; simp [Pgs] at this; omega
  subst hnp
  obtain ⟨A0, n0, g0, p0⟩ := hrows.2 0 (by omega)
  obtain ⟨A1, n1, g1, p1⟩ := hrows.2 1 (by omega)
  have e0 : n0 = 3 := p0.len.symm
  have e1 : n1 = 0 := p1.len.symm
  subst e0 e1
  obtain ⟨ads, rfl, _, hcs⟩ := (Reads.of_own hown5).2 (by omega)
  have k0 := hcs 0 _ g0
  have k1 := hcs 1 _ g1
  clear hrc hr4 hb4 hp4 hz4 hb5' hown5 hrows hr5 hrc5 hpr p0 p1 hcs g0 g1
  have hm1 : fMany 42 512 = 1 := by decide
  have hm2 : fMany 43 512 = 2 := by decide
  have l1 : w5.cell? ⟨ad.block, ad.off + 1, none⟩ = some (.slice Ap 2 cp) := l1
  have k1 : w5.cell? ⟨ads.block, ads.off + 1, none⟩ = some (.slice A1 0 0) := k1
  have k0 : w5.cell? ads = some (.slice A0 3 3) := k0
  have l0 : w5.cell? ad = some (.int .u64 3) := l0
  have hmA := fun W => fmany_any W 42 512 (by omega) (by omega)
  have hmB := fun W => fmany_any W 43 512 (by omega) (by omega)
  rw [hm1] at hmA
  rw [hm2] at hmB
  go_wp2_with fail
  refine (hmA _).mono ?_
  rintro r w' ⟨rfl, rfl⟩
  go_wp2_with fail
  refine (hmB _).mono ?_
  rintro r w' ⟨rfl, rfl⟩
  go_wp2_with fail
  go_ret
  exact ⟨rfl, hb5⟩

end Go.Proofs.Ythmkmojlnfkfjaa
