/- FreedPuts. -/
import Derived.Test.YthmkmojlnfkfjaaFRefP
namespace Go.Proofs.Ythmkmojlnfkfjaa
open Go.RowKit
set_option linter.unusedVariables false
set_option linter.unusedSimpArgs false

set_option maxRecDepth 100000 in
set_option maxHeartbeats 4000000 in
theorem freedPuts_law (w : World) (A : Option Addr) (n c : Nat) (ps : List FP) (h : Prs w w.heap.size A n ps) (hnc : n ≤ c) (hok : FPs ps) (next : Nat) (hx : next < 4294967296) (S : Int) :
    Calls Try.prog 4 #[.slice A n c, .int .u32 (next : Int), .int .i64 S] w fun e w' => e = .returned (.bool true) ∧ Below w.heap.size w w' := by
  have hlen := h.len
  go_enter Try.func4, Try.ntmps4
  go_wp2_with fail
  refine (awake10 w).mono ?_
  rintro e w1 ⟨rfl, hb1⟩
  have h1 := h.below hb1
  have hz1 := hb1.size
  by_cases hn : 400 < n
  · have hnd : decide (400 < n) = true := decide_eq_true hn
    have hni : (400 : Int) < (n : Int) := by omega
    go_wp2_with fail
    go_ret
    exact ⟨rfl, hb1⟩
  have hnd : decide (400 < n) = false := decide_eq_false hn
  have hni : ¬ (400 : Int) < (n : Int) := by omega
  go_wp2_with fail
  refine (pairs_any w1 _ A n c ps h1 hz1 (by omega)).mono ?_
  rintro e w2 ⟨Av, cv, rfl, hown2, hb2⟩
  have hp2 := Prs.of_own hown2
  have hbb2 := hb1.trans (hb2.mono hz1)
  have hz2 := hbb2.size
  have h2 := h1.below (hb2.mono hz1)
  clear hown2
  go_wp2_with fail
  refine (fput_any w2 _ Av n cv ps hp2 (Nat.le_refl _) hok (by omega) next hx S).mono ?_
  rintro e w3 ⟨hb3, hcase⟩
  have hbb3 := hbb2.trans (hb3.mono hz2)
  have hz3 := hbb3.size
  have h3 := h2.below (hb3.mono hz2)
  clear hp2 h2 h1
  rcases hcase with ⟨hR, g, rfl, hg, hrow⟩ | ⟨hR, rfl⟩
  · obtain ⟨size, rfl⟩ := Int.eq_ofNat_of_zero_le (show 0 ≤ S by have := hR.1; omega)
    rw [Int.toNat_natCast] at hrow ⊢
    have hs1 : 512 ≤ size := by have := hR.1; omega
    have hs2 : size ≤ 4096 := by have := hR.2.1; omega
    have hpl : (fPut ps next size).length = size := fPut_length _ _ _ (by
      have h4 := hR.2.2.1
      rw [Int.toNat_natCast] at h4
      have := fRoom_bounds (size := size) hs1 hs2
      omega)
    have HPG := Lib.hid (fPage_put (size := size) hok hx hR)
    have HPL := Lib.hid hpl
    have HR := Lib.hid hR
    clear hpl hR
    go_wp2_with fail
    refine (rfput_any w3 _ A n c ps h3 hz3 hok (by omega) next hx (size : Int)).mono ?_
    rintro e w4 ⟨hb4, hcase⟩
    have he : e = .returned (.tuple #[.string (st (fPut ps next (size : Int).toNat)), .int .i64 0]) := by
      rcases hcase with ⟨_, he⟩ | ⟨hno, _⟩
      · exact he
      · exact absurd HR.out hno
    subst he
    clear hcase
    rw [Int.toNat_natCast]
    have hrow4 := hrow.below hb4 hrow.lt
    have hsl4 := hrow4.slN (n := size) HPL.out (by omega)
    have hcv := string_of_sl (P := Try.prog) Try.underlying35 Try.underlying5 Try.underlying9 hsl4
    have hbb4 := hbb3.trans (hb4.mono hz3)
    have h4 := h3.below (hb4.mono hz3)
    obtain ⟨sp, hsp⟩ : ∃ sp, st (fPut ps next size) = sp := ⟨_, rfl⟩
    rw [hsp]
    rw [show (⟨(fPut ps next size).toArray⟩ : ByteArray) = sp from hsp] at hcv
    clear hrow hb2 hb3 h3 hsp
    go_wp2_with fail
    refine (fget_is w4 _ _ size size _ hsl4 (Nat.le_refl _) (by omega) HPG.out).mono ?_
    rintro e w5 ⟨A5, c5, rfl, hown5, hb5⟩
    have hbb5 := hbb4.trans (hb5.mono hbb4.size)
    have h5 := h4.below (hb5.mono hbb4.size)
    have hp5 := Prs.of_own hown5
    have hzz := hbb5.size
    clear hown5 hsl4 hcv
    rw [hlen] at hp5 ⊢
    go_wp2_with (first | (go_at_call 13; refine (alike_any _ _ _ A5 A n c5 n c _ _ hp5 h5 (Nat.le_refl _) hzz (by omega) (by omega) rfl).mono ?_; rintro e w6 ⟨rfl, hb6⟩))
    go_ret
    exact ⟨rfl, hbb5.trans (hb6.mono hzz)⟩
  · have HR := Lib.hid hR
    clear hR
    go_wp2_with fail
    refine (rfput_any w3 _ A n c ps h3 hz3 hok (by omega) next hx S).mono ?_
    rintro e w4 ⟨hb4, hcase⟩
    rcases hcase with ⟨hyes, _⟩ | ⟨_, rfl⟩
    · exact absurd hyes HR.out
    have hcv := string_of_sl (P := Try.prog) (w := w4) (B := 0) Try.underlying35 Try.underlying5 Try.underlying9 (Sl.nil_ _ _)
    have hbb4 := hbb3.trans (hb4.mono hz3)
    go_wp2_with fail
    go_ret
    exact ⟨rfl, hbb4⟩

end Go.Proofs.Ythmkmojlnfkfjaa
