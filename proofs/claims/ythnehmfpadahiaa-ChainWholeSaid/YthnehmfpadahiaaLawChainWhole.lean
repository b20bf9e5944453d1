/- ChainWhole: bytes that are cut, put, got, and laid one behind the other are the same. -/
import Derived.Test.YthnehmfpadahiaaLawChainOwn
namespace Go.Proofs.Ythnehmfpadahiaa
open Go.RowKit
set_option linter.unusedVariables false
set_option linter.unusedSimpArgs false

theorem chL_flat (l : List UInt8) (m k : Nat) : ((List.range k).map (chL l m)).flatten = l.take (k * m) := by
  induction k with
  | zero => simp
  | succ k ih =>
    rw [List.range_succ, List.map_append, List.flatten_append, ih]
    simp only [List.map_cons, List.map_nil, List.flatten_cons, List.flatten_nil, List.append_nil, chL]
    rw [Nat.add_mul, Nat.one_mul, List.take_add]

set_option maxRecDepth 100000 in
set_option maxHeartbeats 4000000 in
theorem chainWhole_law (w : World) (A : Option Addr) (n c : Nat) (l : List UInt8) (h : Sl w w.heap.size A n c l) (S : Int) :
    Calls Try.prog 7 #[.slice A n c, .int .i64 S] w fun e w' => e = .returned (.bool true) ∧ Below w.heap.size w w' := by
  obtain ⟨ii, hi0, hz0, hz1, hz2⟩ := info_parts info_u8
  by_cases hok : n ≤ 9000 ∧ 512 ≤ S ∧ S ≤ 4096
  · obtain ⟨hn, h1, h2⟩ := hok
    obtain ⟨size, rfl⟩ := Int.eq_ofNat_of_zero_le (show 0 ≤ S by omega)
    have hs1 : 512 ≤ size := by omega
    have hs2 : size ≤ 4096 := by omega
    have hnb : decide (9000 < (n : Int)) = false := decide_eq_false (by omega)
    have hc1 : decide ((size : Int) < 512) = false := decide_eq_false (by omega)
    have hc2 : decide (4096 < (size : Int)) = false := decide_eq_false (by omega)
    go_enter Try.func7, Try.ntmps7
    go_wp2_with (first | (go_at_call 14; refine (awake6 _).mono ?_; rintro e w1 ⟨rfl, hb1⟩))
    refine (cut_ok w1 A n c l size ((h.belowX hb1).more hb1.size) (by omega) (by omega) (by omega)).mono ?_
    rintro e w2 ⟨Av, nv, cv, cs, rfl, hnv, ho, hp, hb2'⟩
    have hb2 := hb1.trans (hb2'.mono hb1.size)
    obtain ⟨m, hm⟩ : ∃ m, size - 8 = m := ⟨_, rfl⟩
    rw [hm] at hnv hp
    have hmi : (size : Int) - 8 = (m : Int) := by omega
    have hm1 : 504 ≤ m := by omega
    have hm2 : m + 8 ≤ size := by omega
    have hsz := hb2'.size
    have hsz1 := hb1.size
    have hlen : cs.length = nv := by rw [hp.1, List.length_map, List.length_range, hnv.out]
    have hHl := Lib.hid h.len
    have hKn : nv ≤ 9000 := by
      rcases Nat.lt_or_ge 9000 nv with h9 | h9
      · have := (chK_iff n m 9000 (by omega)).1 (by rw [← hnv.out]; exact h9)
        omega
      · exact h9
    go_wp2_with fail
    go_loopw [7, 8] (fun a i wr => ∃ (k na ca : Nat) (Aa : Option Addr), k ≤ nv ∧ i = .int .i64 (k : Int) ∧ a = .slice Aa na ca ∧ wr.ownsRow w2.heap.size 5 1 (.slice Aa na ca) na (bv (l.take (k * m))) ∧ Below w2.heap.size w2 wr) (fun _ i _ => nv - (intOf i).toNat)
    case atStart => exact ⟨0, 0, 0, none, Nat.zero_le _, rfl, rfl, by simp [bv]; exact World.ownsRow_nil _ _ _ _, Below.refl _ _⟩
    case round =>
      obtain ⟨k, na, ca, Aa, hk, rfl, rfl, hown, hbw⟩ := hrel
      by_cases hlt : k < nv
      · have hkn : k * m < n := (chK_iff n m k (by omega)).1 (by rw [← hnv.out]; exact hlt)
        obtain ⟨gl, rfl, hgl, hgl2, hlc⟩ := own_cells ho (by omega)
        obtain ⟨A0, n0, c0, p, hx0, hpe, ho0⟩ := hp.2 k _ (List.getElem?_eq_getElem (show k < cs.length by omega))
        have hpp : p = chL l m k := by
          rw [List.getElem?_map, List.getElem?_range (by rw [← hnv.out]; exact hlt)] at hpe
          simpa using hpe.symm
        have hc0 := hlc k _ (List.getElem?_eq_getElem (show k < cs.length by omega))
        rw [hx0] at hc0
        have hcw := (hbw.cell (p := ⟨gl, k, none⟩) hgl2).trans hc0
        have hn0 : n0 = p.length := by have := ho0.1; simpa [bv_length] using this.symm
        have hE : n0 = min m (n - k * m) := by rw [hn0, hpp, chL_length, hHl.out]; rfl
        have hEa : 1 ≤ n0 := by omega
        have hEb : n0 ≤ m := by omega
        have hEc : k + 1 < nv → n0 = m := fun hl => by
          have := (chK_iff n m (k + 1) (by omega)).1 (by rw [← hnv.out]; exact hl)
          rw [Nat.add_mul] at this
          omega
        have Hn0 := Lib.hid hn0
        have Hpp := Lib.hid hpp
        have hsp := Sl.of_own (own_below ho0 hbw (Nat.le_refl _))
        have hbs := hbw.size
        have hna : na ≤ 9000 := by
          have := hown.1
          rw [bv_length, List.length_take] at this
          omega
        obtain ⟨k1, hk1⟩ : ∃ k1, k + 1 = k1 := ⟨_, rfl⟩
        have hk1c : (k : Int) + 1 = (k1 : Int) := by omega
        have hk1b : k1 ≤ 9000 := by omega
        have hw32 : IntKind.u32.wrap (k1 : Int) = (k1 : Int) := IntWalk.u32_in _ (by omega)
        have hw64 : IntKind.i64.wrap (k1 : Int) = (k1 : Int) := IntWalk.i64_in _ (by omega)
        have Hk1 := Lib.hid hk1
        rw [hk1] at hEc
        clear hx0 hpe hn0 hpp hE hc0 hlc hkn hk1
        by_cases hl : k1 < nv
        · obtain rfl := hEc hl
          have hcl : decide ((k1 : Int) < (nv : Int)) = true := decide_eq_true (by omega)
          go_wp2_with fail
          refine (cput_ok _ _ _ _ _ _ hsp k1 size (by omega) (by omega) (by omega) hEa (by omega)).mono ?_
          rintro e w3 ⟨g2, rfl, hg2, hr2, hb3'⟩
          have hs3 := hr2.slN (n := size) (chPut_length _ _ _ (by rw [← Hn0.out]; omega)) (by omega)
          go_wp2_with fail
          refine (cget_some _ _ _ _ _ _ p k1 hs3 (by omega) (chGet_put _ _ _ (by omega) (by omega) (by omega) (by rw [← Hn0.out]; omega) (by rw [← Hn0.out]; omega))).mono ?_
          rintro e w4 ⟨A4, n4, c4, rfl, ho4, _, hb4'⟩
          have hn4 : n4 = p.length := by have := ho4.1; simpa [bv_length] using this.symm
          obtain rfl := hn4.trans Hn0.out.symm
          have hb34 : Below wr.heap.size wr w4 := hb3'.trans (hb4'.mono hb3'.size)
          have hown4 := own_below hown hb34 (Nat.le_refl _)
          have hs4 := Sl.of_own ho4
          have hbs4 := hb34.size
          clear hn4
          go_wp2_with (first | (at_builtin; refine wpList_append_any _ rfl _ _ _ rfl w2.heap.size 5 ii _ 1 1 Try.underlying22 hi0 hz0 hz1 hz2 rfl (by omega) (.slice Aa na ca) na _ rfl hown4 _ A4 n4 c4 _ rfl hs4.reads (bv_one _) (by unfold maxLen; omega) (by omega) (by omega) ?_; intro v' w5 hown5 hg5 hat5; obtain ⟨A5, c5, rfl⟩ := own_slice hown5))
          refine ⟨⟨k1, na + n4, c5, A5, by have := Hk1.out; omega, rfl, rfl, ?_, (hbw.trans (hb34.mono hbs)).grown hg5 (by omega) (fun k hk => own_base hown4 k hk)⟩, by have := Hk1.out; simp [intOf]; omega⟩
          rw [← Hk1.out, Nat.add_mul, Nat.one_mul, List.take_add, bv_append]
          rw [Hpp.out] at hown5
          exact hown5
        · have hcl : decide ((k1 : Int) < (nv : Int)) = false := decide_eq_false (by omega)
          go_wp2_with fail
          refine (cput_ok _ _ _ _ _ _ hsp k1 size (by omega) (by omega) (by omega) hEa (by omega)).mono ?_
          rintro e w3 ⟨g2, rfl, hg2, hr2, hb3'⟩
          have hs3 := hr2.slN (n := size) (chPut_length _ _ _ (by rw [← Hn0.out]; omega)) (by omega)
          go_wp2_with fail
          refine (cget_some _ _ _ _ _ _ p k1 hs3 (by omega) (chGet_put _ _ _ (by omega) (by omega) (by omega) (by rw [← Hn0.out]; omega) (by rw [← Hn0.out]; omega))).mono ?_
          rintro e w4 ⟨A4, n4, c4, rfl, ho4, _, hb4'⟩
          have hn4 : n4 = p.length := by have := ho4.1; simpa [bv_length] using this.symm
          obtain rfl := hn4.trans Hn0.out.symm
          have hb34 : Below wr.heap.size wr w4 := hb3'.trans (hb4'.mono hb3'.size)
          have hown4 := own_below hown hb34 (Nat.le_refl _)
          have hs4 := Sl.of_own ho4
          have hbs4 := hb34.size
          clear hn4
          go_wp2_with (first | (at_builtin; refine wpList_append_any _ rfl _ _ _ rfl w2.heap.size 5 ii _ 1 1 Try.underlying22 hi0 hz0 hz1 hz2 rfl (by omega) (.slice Aa na ca) na _ rfl hown4 _ A4 n4 c4 _ rfl hs4.reads (bv_one _) (by unfold maxLen; omega) (by omega) (by omega) ?_; intro v' w5 hown5 hg5 hat5; obtain ⟨A5, c5, rfl⟩ := own_slice hown5))
          refine ⟨⟨k1, na + n4, c5, A5, by have := Hk1.out; omega, rfl, rfl, ?_, (hbw.trans (hb34.mono hbs)).grown hg5 (by omega) (fun k hk => own_base hown4 k hk)⟩, by have := Hk1.out; simp [intOf]; omega⟩
          rw [← Hk1.out, Nat.add_mul, Nat.one_mul, List.take_add, bv_append]
          rw [Hpp.out] at hown5
          exact hown5
      · obtain rfl : k = nv := by omega
        have hflat : l.take (k * m) = l := by
          refine List.take_of_length_le ?_
          rw [hHl.out]
          rcases Nat.lt_or_ge (k * m) n with h9 | h9
          · exact absurd ((chK_iff n m k (by omega)).2 h9) (by rw [← hnv.out]; omega)
          · exact h9
        rw [hflat] at hown
        have hbz := hb2.trans (hbw.mono (by omega))
        have hcva := string_of_sl (P := Try.prog) Try.underlying22 Try.underlying5 Try.underlying9 (Sl.of_own hown)
        have hcvb := string_of_sl (P := Try.prog) Try.underlying22 Try.underlying5 Try.underlying9 (h.belowX hbz)
        go_wp2_with fail
        go_ret
        exact ⟨rfl, hbz⟩
  · by_cases c1 : 9000 < n
    · have hnb : decide (9000 < (n : Int)) = true := decide_eq_true (by omega)
      go_enter Try.func7, Try.ntmps7
      go_wp2_with (first | (go_at_call 14; refine (awake6 _).mono ?_; rintro e w1 ⟨rfl, hb1⟩))
      go_ret
      exact ⟨rfl, hb1⟩
    · by_cases c2 : S < 512
      · have hnb : decide (9000 < (n : Int)) = false := decide_eq_false (by omega)
        go_enter Try.func7, Try.ntmps7
        go_wp2_with (first | (go_at_call 14; refine (awake6 _).mono ?_; rintro e w1 ⟨rfl, hb1⟩))
        go_ret
        exact ⟨rfl, hb1⟩
      · have c3 : 4096 < S := by omega
        have hnb : decide (9000 < (n : Int)) = false := decide_eq_false (by omega)
        go_enter Try.func7, Try.ntmps7
        go_wp2_with (first | (go_at_call 14; refine (awake6 _).mono ?_; rintro e w1 ⟨rfl, hb1⟩))
        go_ret
        exact ⟨rfl, hb1⟩

end Go.Proofs.Ythnehmfpadahiaa
