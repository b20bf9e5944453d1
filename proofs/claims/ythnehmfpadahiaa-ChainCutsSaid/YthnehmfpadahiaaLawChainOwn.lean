/- ChainOwn and ChainWhole: what is cut, put and got. -/
import Derived.Test.YthnehmfpadahiaaCut
import Derived.Test.YthnehmfpadahiaaLawChain
namespace Go.Proofs.Ythnehmfpadahiaa
open Go.RowKit
set_option linter.unusedVariables false
set_option linter.unusedSimpArgs false

theorem own_cells {w : World} {base : Nat} {e : TypeId} {n c : Nat} {A : Option Addr} {cs : List Value} (h : w.ownsRow base e 1 (.slice A n c) n cs) (hn : 0 < n) :
    ∃ g, A = some ⟨g, 0, none⟩ ∧ base ≤ g ∧ g < w.heap.size ∧ ∀ (j : Nat) (u : Value), cs[j]? = some u → w.cell? ⟨g, j, none⟩ = some u := by
  have hr := Reads.of_own h
  rcases h.2 with ⟨hv, hz⟩ | ⟨g, cap, cur, hv, hgb, hgc, _⟩
  · cases hv
    omega
  · cases hv
    obtain ⟨ad, he, hb, hc⟩ := hr.2 hn
    cases he
    exact ⟨g, rfl, hgb, hb, fun j u hu => by have := hc j u hu; rwa [Addr.add_lit, Nat.zero_add] at this⟩

theorem MB.set_far {w : World} {g : Nat} {l : List UInt8} (h : MB w g l) {p : Addr} (hne : p.block ≠ g) (v : Value) : MB (w.setCell p v) g l :=
  ⟨by simpa [World.setCell] using h.1, fun i b hi => ⟨(World.cell?_setCell_other w p ⟨g, i, none⟩ v (fun e => hne (by rw [e]))).trans (h.2 i b hi).1, by simpa using (h.2 i b hi).2⟩⟩

set_option maxRecDepth 100000 in
theorem chainOwn_law (w : World) (A : Option Addr) (n c : Nat) (l : List UInt8) (h : Sl w w.heap.size A n c l) (X : UInt8) :
    Calls Try.prog 8 #[.slice A n c, .int .u8 (X.toNat : Int)] w fun e w' => e = .returned (.bool true) ∧ Below w.heap.size w w' := by
  by_cases hn : n < 1 ∨ 2000 < n
  · by_cases hn1 : n < 1
    · have hnb : decide ((n : Int) = 0) = true := decide_eq_true (by omega)
      go_enter Try.func8, Try.ntmps8
      go_wp2_with (first | (go_at_call 14; refine (awake6 _).mono ?_; rintro e w1 ⟨rfl, hb1⟩))
      go_ret
      exact ⟨rfl, hb1⟩
    · have hnb : decide ((n : Int) = 0) = false := decide_eq_false (by omega)
      have hnc : decide (2000 < (n : Int)) = true := decide_eq_true (by omega)
      go_enter Try.func8, Try.ntmps8
      go_wp2_with (first | (go_at_call 14; refine (awake6 _).mono ?_; rintro e w1 ⟨rfl, hb1⟩))
      go_ret
      exact ⟨rfl, hb1⟩
  · have hnb : decide ((n : Int) = 0) = false := decide_eq_false (by omega)
    have hnc : decide (2000 < (n : Int)) = false := decide_eq_false (by omega)
    have hn1 : 1 ≤ n := by omega
    have hn2 : n ≤ 2000 := by omega
    clear hn
    go_enter Try.func8, Try.ntmps8
    go_wp2_with (first | (go_at_call 14; refine (awake6 _).mono ?_; rintro e w1 ⟨rfl, hb1⟩; have hcv0 := string_of_sl (P := Try.prog) Try.underlying22 Try.underlying5 Try.underlying9 (h.belowX hb1)))
    refine (cut_ok w1 A n c l 512 ((h.belowX hb1).more hb1.size) (by omega) (by omega) (by omega)).mono ?_
    rintro e w2 ⟨Av, nv, cv, cs, rfl, hnv, ho, hp, hb2'⟩
    have hb2 := hb1.trans (hb2'.mono hb1.size)
    obtain ⟨p0, hp0⟩ : ∃ p0, chL l 504 0 = p0 := ⟨_, rfl⟩
    have hK1 : 0 < nv := by rw [hnv.out]; exact (chK_iff n 504 0 (by omega)).2 (by omega)
    have hp00 : p0.length = min 504 n ∧ ∀ x : UInt8, p0[0]? = some x → l[0]? = some x := by
      subst hp0
      refine ⟨by rw [chL_length, h.len]; simp [chE], fun x hx => ?_⟩
      simp only [chL, Nat.zero_mul, List.drop_zero] at hx
      rw [List.getElem?_take] at hx
      split at hx
      · exact hx
      · cases hx
    obtain ⟨hp01, hp02⟩ := hp00
    obtain ⟨gl, rfl, hgl, hgl2, hlc⟩ := own_cells ho hK1
    have hlen : cs.length = nv := by rw [hp.1, List.length_map, List.length_range, hnv.out]
    obtain ⟨A0, n0, c0, p, hx0, hpe, ho0⟩ := hp.2 0 _ (List.getElem?_eq_getElem (show 0 < cs.length by omega))
    have hpp : p = p0 := by
      rw [List.getElem?_map, List.getElem?_range (by rw [← hnv.out]; exact hK1)] at hpe
      simp only [Option.map_some, Option.some.injEq] at hpe
      rw [← hpe, ← hp0]
    subst hpp
    have hc0 := hlc 0 _ (List.getElem?_eq_getElem (show 0 < cs.length by omega))
    rw [hx0] at hc0
    have hn0 : n0 = p.length := by have := ho0.1; simpa [bv_length] using this.symm
    have hn01 : 1 ≤ n0 := by omega
    have hn02 : n0 ≤ 504 := by omega
    obtain ⟨b0, hpb⟩ : ∃ b0, p[0]? = some b0 := ⟨_, List.getElem?_eq_getElem (by omega)⟩
    have hlb := hp02 _ hpb
    have Hn0 := Lib.hid hn0
    obtain ⟨g0, c0', hv0, hM0, hc0', hg0⟩ := MB.of_own ho0 (by omega)
    cases hv0
    clear hp0 hpe hx0 hp hlc hp01 hp02 hn0
    have hnvb : decide ((nv : Int) = 0) = false := decide_eq_false (by omega)
    have hs2 := Sl.of_own ho0
    clear hcv0
    go_wp2_with fail
    refine (cput_ok _ _ _ _ _ _ hs2 9 512 (by omega) (by omega) (by omega) hn01 (by omega)).mono ?_
    rintro e w3 ⟨g2, rfl, hg2, hr2, hb3'⟩
    have hb3 := hb2.trans (hb3'.mono hb2.size)
    have hs3 := hr2.slN (n := 512) (chPut_length _ _ _ (by rw [← Hn0.out]; omega)) (by omega)
    go_wp2_with fail
    refine (cget_some _ _ _ _ _ _ p 9 hs3 (by omega) (chGet_put _ _ _ (by omega) (by omega) (by omega) (by rw [← Hn0.out]; omega) (by rw [← Hn0.out]; omega))).mono ?_
    rintro e w4 ⟨A4, n4, c4, rfl, ho4, _, hb4'⟩
    have hb4 := hb3.trans (hb4'.mono hb3.size)
    have hn4 : n4 = n0 := by have := ho4.1; rw [Hn0.out]; simpa [bv_length] using this.symm
    subst hn4
    obtain ⟨g4, c4', hv4, hM4, hc4', hg4⟩ := MB.of_own ho4 (by omega)
    cases hv4
    have hb24 : Below w2.heap.size w2 w4 := hb3'.trans (hb4'.mono hb3'.size)
    have hM04 := hM0.below hb24 hM0.1
    have hlc4 := (hb24.cell (p := ⟨gl, 0, none⟩) hgl2).trans hc0
    have hz3 := hb3'.size
    have hz1 := hb1.size
    have hz2 := hb2'.size
    have hz4 := hb4'.size
    have hg0' := hM0.1
    have hr4 := hr2.below hb4' hr2.lt
    have hM2 := MB.of_row hr4
    have hr2l := hr2.lt
    obtain ⟨hbc, hbf⟩ := hM04.2 0 b0 hpb
    obtain ⟨hqc, hqf⟩ := hM4.2 0 b0 hpb
    have hxor := xor_byte b0 X
    have hnvb4 : decide ((n4 : Int) = 0) = false := decide_eq_false (by omega)
    go_wp2_with fail
    obtain ⟨V, hV⟩ : ∃ V, Value.int IntKind.u8 (↑(b0.toNat ^^^ X.toNat)) = V := ⟨_, rfl⟩
    simp only [hV]
    have hM5 := (hM2.set_far (p := ⟨g0, 0, none⟩) (show g0 ≠ g2 by omega) V).set_far (p := ⟨g4, 0, none⟩) (show g4 ≠ g2 by omega) V
    have hb5 : Below w.heap.size w ((w4.setCell ⟨g0, 0, none⟩ V).setCell ⟨g4, 0, none⟩ V) := (hb4.setCell (p := ⟨g0, 0, none⟩) (show w.heap.size ≤ g0 by omega) V).setCell (p := ⟨g4, 0, none⟩) (show w.heap.size ≤ g4 by omega) V
    obtain ⟨w5, hw5⟩ : ∃ w5, (w4.setCell ⟨g0, 0, none⟩ V).setCell ⟨g4, 0, none⟩ V = w5 := ⟨_, rfl⟩
    rw [hw5] at hM5 hb5 ⊢
    have hs5 := hM5.sl (n := 512) (c := 512) (chPut_length _ _ _ (by rw [← Hn0.out]; omega)) (by omega)
    refine (cget_some _ _ _ _ _ _ p 9 hs5 (by omega) (chGet_put _ _ _ (by omega) (by omega) (by omega) (by rw [← Hn0.out]; omega) (by rw [← Hn0.out]; omega))).mono ?_
    rintro e w6 ⟨A6, n6, c6, rfl, ho6, _, hb6'⟩
    have hb6 := hb5.trans (hb6'.mono hb5.size)
    have hn6 : n6 = n4 := by have := ho6.1; rw [Hn0.out]; simpa [bv_length] using this.symm
    subst hn6
    obtain ⟨g6, c6', hv6, hM6, hc6', hg6⟩ := MB.of_own ho6 (by omega)
    cases hv6
    obtain ⟨hrc, _⟩ := hM6.2 0 b0 hpb
    have hcvb := string_of_sl (P := Try.prog) Try.underlying22 Try.underlying5 Try.underlying9 (h.belowX hb6)
    obtain ⟨ad, bb, rfl, hadb, hbb, hbc6⟩ := (h.belowX hb6).get (show 0 < n by omega)
    have hbe : bb = b0 := by rw [hlb] at hbb; exact (Option.some.inj hbb).symm
    subst hbe
    rw [show ad.add 0 = ad from by cases ad; rfl] at hbc6
    clear hbc hbf hqc hqf hxor hlc4
    go_wp2_with fail
    have hcvd := string_of_sl (P := Try.prog) Try.underlying22 Try.underlying5 Try.underlying9 ((h.belowX hb6).below (Below.refl _ _).drew)
    have hrcd : w6.drew.cell? ⟨g6, 0, none⟩ = _ := hrc
    have hbcd : w6.drew.cell? ad = _ := hbc6
    clear hcvb hrc hbc6
    have hp6 : 0 < n6 := by omega
    have hpn : 0 < n := by omega
    go_still (by kernel_rfl)
    go_wp2
    go_ret
    exact ⟨rfl, hb6.drew⟩

end Go.Proofs.Ythnehmfpadahiaa
