/- FreedGets. -/
import Derived.Test.YthmkmojlnfkfjaaFRefG
import Derived.Deep.DeepCutAuto
namespace Go.Proofs.Ythmkmojlnfkfjaa
open Go.RowKit
set_option linter.unusedVariables false
set_option linter.unusedSimpArgs false

theorem xor_byte (a b : UInt8) : bits BinOp.xor IntKind.u8 (a.toNat : Int) (b.toNat : Int) = ((a ^^^ b).toNat : Int) := by
  rw [u8_xor_nat _ _ a.toNat_lt b.toNat_lt]
  simp
theorem FPage.same {ps ps' : List FP} {next next' : Nat} {b : List UInt8} (h : FPage ps next b) (h' : FPage ps' next' b) : ps' = ps ∧ next' = next := by
  obtain ⟨r1, r2, r3⟩ := h.reads
  obtain ⟨q1, q2, q3⟩ := h'.reads
  exact ⟨by rw [← q3, ← q1, r1, r3], by rw [← q2, r2]⟩

set_option maxRecDepth 100000 in
set_option maxHeartbeats 4000000 in
theorem freedGets_law (w : World) (A : Option Addr) (n c : Nat) (ps : List FP) (h : Prs w w.heap.size A n ps) (hok : FPs ps) (next : Nat) (hx : next < 4294967296) (S : Int)
    (A1 : Option Addr) (n1 c1 : Nat) (zs : List Int) (hz : Nums .u16 w w.heap.size A1 n1 c1 zs) (A2 : Option Addr) (n2 c2 : Nat) (l2 : List UInt8) (hx2 : Sl w w.heap.size A2 n2 c2 l2) (hnn : n ≤ 9223372036854775807) (hnn1 : n1 ≤ 9223372036854775807) (hnn2 : n2 ≤ 9223372036854775807) :
    Calls Try.prog 5 #[.slice A n c, .int .u32 (next : Int), .int .i64 S, .slice A1 n1 c1, .slice A2 n2 c2] w fun e w' => e = .returned (.bool true) ∧ Below w.heap.size w w' := by
  have hlen := h.len
  go_enter Try.func5, Try.ntmps5
  go_wp2_with fail
  refine (awake10 w).mono ?_
  rintro e w1 ⟨rfl, hb1⟩
  have h1 := h.below hb1
  have hz1 := hb1.size
  by_cases hn : 400 < n
  · have hnd : decide (400 < n) = true := decide_eq_true hn
    have hni : (400 : Int) < (n : Int) := by omega
    go_wp2_with fail
    go_ret
    exact ⟨rfl, hb1⟩
  have hnd : decide (400 < n) = false := decide_eq_false hn
  have hni : ¬ (400 : Int) < (n : Int) := by omega
  by_cases c20 : 20 < n1
  · have d20 : decide (20 < n1) = true := decide_eq_true c20
    have d20' : decide ((20 : Int) < (n1 : Int)) = true := decide_eq_true (by omega)
    go_wp2_with fail
    go_ret
    exact ⟨rfl, hb1⟩
  have d20 : decide (20 < n1) = false := decide_eq_false c20
  have d20' : decide ((20 : Int) < (n1 : Int)) = false := decide_eq_false (by omega)
  by_cases c21 : n2 < n1
  · have d21 : decide (n2 < n1) = true := decide_eq_true c21
    go_wp2_with fail
    go_ret
    exact ⟨rfl, hb1⟩
  have d21 : decide (n2 < n1) = false := decide_eq_false c21
  by_cases c22 : 5000 < n2
  · have d22 : decide (5000 < n2) = true := decide_eq_true c22
    have d22' : decide ((5000 : Int) < (n2 : Int)) = true := decide_eq_true (by omega)
    go_wp2_with fail
    go_ret
    exact ⟨rfl, hb1⟩
  have d22 : decide (5000 < n2) = false := decide_eq_false c22
  have d22' : decide ((5000 : Int) < (n2 : Int)) = false := decide_eq_false (by omega)
  go_wp2_with fail
  refine (pairs_any w1 _ A n c ps h1 hz1 (by omega)).mono ?_
  rintro e w2 ⟨Av, cv, rfl, hown2, hb2'⟩
  have hp2 := Prs.of_own hown2
  have hb2 := hb1.trans (hb2'.mono hz1)
  have hz2 := hb2.size
  clear hown2 h1 hb1 hb2' hnd hni d20 d20' d21 d22 d22'
  go_wp2_with fail
  refine (fput_any w2 _ Av n cv ps hp2 (Nat.le_refl _) hok (by omega) next hx S).mono ?_
  rintro e w3 ⟨hb3', hcase⟩
  have hb3 := hb2.trans (hb3'.mono hz2)
  have hz3 := hb3.size
  clear hp2 hb3' hb2
  rcases hcase with ⟨hR, g, rfl, hg, hrow⟩ | ⟨hR, rfl⟩
  · obtain ⟨size, rfl⟩ := Int.eq_ofNat_of_zero_le (show 0 ≤ S by have := hR.1; omega)
    rw [Int.toNat_natCast] at hrow ⊢
    have hs1 : 512 ≤ size := by have := hR.1; omega
    have hs2 : size ≤ 4096 := by have := hR.2.1; omega
    have hpl : (fPut ps next size).length = size := fPut_length _ _ _ (by
      have h4 := hR.2.2.1
      rw [Int.toNat_natCast] at h4
      have := fRoom_bounds (size := size) hs1 hs2
      omega)
    have hgw : w.heap.size ≤ g := by omega
    obtain ⟨b0, hmb0, hl01, hl02⟩ : ∃ b0, MB w3 g b0 ∧ size ≤ b0.length ∧ b0.length ≤ size := ⟨_, MB.of_row hrow, by omega, by omega⟩
    have hpos0 : n1 = 0 ∨ 0 < size := by omega
    clear hpl hR hrow
    go_wp2_with fail
    go_loopw [14] (fun i wr => ∃ (k : Nat) (bl : List UInt8), k ≤ n1 ∧ i = .int .i64 k ∧ MB wr g bl ∧ size ≤ bl.length ∧ bl.length ≤ size ∧ Below w.heap.size w wr) (fun i _ => n1 - (intOf i).toNat)
    case atStart => exact ⟨0, b0, Nat.zero_le _, rfl, hmb0, hl01, hl02, hb3⟩
    case round =>
      obtain ⟨k, bl, hk, rfl, hmb, hl1, hl2, hbw⟩ := hrel
      by_cases hlt : k < n1
      · have hpos : 0 < size := by omega
        have hposb : decide (0 < size) = true := decide_eq_true hpos
        have hkn2 : k < n2 := by omega
        have hnz : ¬ size = 0 := by omega
        obtain ⟨z, adz, rfl, hadz, hzc, hz0, hz1⟩ := (hz.below hbw).at_ hlt
        obtain ⟨adx, xb, rfl, hadx, _, hxc⟩ := (hx2.below hbw).get (show k < n2 by omega)
        obtain ⟨j, hj, hjn⟩ := spoil_idx z size hz0 hpos
        have hzw : IntKind.i64.wrap z = z := IntWalk.i64_in _ (by omega)
        obtain ⟨hbc, hbf⟩ := hmb.2 j bl[j] (List.getElem?_eq_getElem (by omega))
        have hxor := xor_byte bl[j] xb
        have hj0 : (0 : Int) ≤ (j : Int) := by omega
        have hj1 : (j : Int) < (size : Int) := by omega
        have hset := hmb.set_ j (bl[j] ^^^ xb) (by omega)
        have hbn := hbw.setCell (p := ⟨g, j, none⟩) hgw (.int .u8 ((bl[j] ^^^ xb).toNat : Int))
        go_wp2
        refine wp_still_tail 17 (by kernel_rfl) (by kernel_rfl) ?_
        simp only [List.take_succ_cons, List.take_zero, List.drop_succ_cons, List.drop_zero]
        repeat still_step
        refine wpStill_nil ?_
        go_wp2
        go_roundw
        case rel => exact ⟨k + 1, bl.set j (bl[j] ^^^ xb), by omega, by go_num, hset, by simpa using hl1, by simpa using hl2, hbn.drew⟩
        case measure => simp [intOf]; omega
      · clear hmb0 hl01 hl02
        obtain rfl : k = n1 := by omega
        have hN : bl.length = size := by omega
        have hs := hmb.sl (n := size) (c := size) hN (by omega)
        have HN := Lib.hid hN
        have hbls : bl.length ≤ 140737488355328 := by omega
        clear hN hl1 hl2 hmb
        go_wp2_with fail
        refine (fget_any _ _ _ _ _ _ hs (Nat.le_refl _) (by omega)).mono ?_
        rintro e w5 ⟨hb5', hcase⟩
        have hb5 := hbw.trans (hb5'.mono hbw.size)
        have hs5 := hs.below hb5'
        have hcv5 := string_of_sl (P := Try.prog) Try.underlying35 Try.underlying5 Try.underlying9 hs5
        clear hs
        rcases hcase with ⟨qs, nx, Ay, cy, hpg, rfl, how5⟩ | ⟨hno, rfl⟩
        · go_wp2_with fail
          refine (rfget_any w5 bl hbls).mono ?_
          rintro e w6 ⟨hb6', hcase⟩
          obtain ⟨A6, c6, he, how6⟩ : ∃ A6 c6, e = .returned (.tuple #[.slice A6 qs.length c6, .int .u32 (nx : Int), .int .i64 0]) ∧ w6.ownsRow w5.heap.size 74 2 (.slice A6 qs.length c6) qs.length (PCs qs) := by
            rcases hcase with ⟨qs', nx', A6, c6, hpg', he, how⟩ | ⟨hno, _⟩
            · obtain ⟨rfl, rfl⟩ := hpg.same hpg'
              exact ⟨A6, c6, he, how⟩
            · exact absurd hpg (hno _ _)
          subst he
          have hb6 := hb5.trans (hb6'.mono hb5.size)
          have h5 := (Prs.of_own how5).below hb6'
          have h6 := Prs.of_own how6
          have hz6 := hb6'.size
          have hql : qs.length ≤ 1000000 := by
            have h4 := hpg.2.2.1
            have h7 := h4.2.2.1
            have h8 : bl.length ≤ 4096 := by have := h4.2.1; omega
            rw [Int.toNat_natCast] at h7
            unfold fRoom at h7
            omega
          clear how5 how6 hcase hcv5
          go_wp2_with (first | (go_at_call 13; refine (alike_any _ _ _ Ay A6 _ cy _ c6 _ _ h5 h6 hz6 (Nat.le_refl _) hql hql rfl).mono ?_; rintro e w7 ⟨rfl, hb7⟩))
          go_ret
          exact ⟨rfl, hb6.trans (hb7.mono hb6.size)⟩
        · go_wp2_with fail
          refine (rfget_any w5 bl hbls).mono ?_
          rintro e w6 ⟨hb6', hcase⟩
          have he : e = .returned (.tuple #[.slice none 0 0, .int .u32 0, .int .i64 11]) := by
            rcases hcase with ⟨qs', nx', A6, c6, hpg', he, how⟩ | ⟨_, he⟩
            · exact absurd hpg' (hno _ _)
            · exact he
          subst he
          have hb6 := hb5.trans (hb6'.mono hb5.size)
          clear hcase hcv5 hno
          go_wp2_with (first | (go_at_call 13; refine (alike_any _ 0 0 none none 0 0 0 0 [] [] Prs.nil_ Prs.nil_ (Nat.zero_le _) (Nat.zero_le _) (by omega) (by omega) rfl).mono ?_; rintro e w7 ⟨rfl, hb7⟩))
          go_ret
          exact ⟨rfl, hb6.trans (hb7.mono hb6.size)⟩
  · have hcv2 := string_of_sl (P := Try.prog) Try.underlying35 Try.underlying5 Try.underlying9 (hx2.below hb3)
    obtain ⟨c0, w5, hcvx, hcap, hmb0, hb5'⟩ := bytes_of_st (P := Try.prog) w3 9 35 l2 n2 hx2.len Try.underlying9 Try.underlying35 Try.underlying5
    have hb5 := hb3.trans (hb5'.mono hb3.size)
    obtain ⟨g, hgg⟩ : ∃ g, w3.heap.size = g := ⟨_, rfl⟩
    rw [hgg] at hmb0 hcvx
    have hgw : w.heap.size ≤ g := by rw [← hgg]; exact hb3.size
    obtain ⟨b0, hmb0, hlb⟩ : ∃ b0 : List UInt8, MB w5 g b0 ∧ b0.length = n2 := ⟨l2, hmb0, hx2.len⟩
    have hl01 : n2 ≤ b0.length := by omega
    have hl02 : b0.length ≤ n2 := by omega
    clear hgg hlb hb5' hR
    go_wp2_with fail
    clear hcv2 hcvx
    go_loopw [14] (fun i wr => ∃ (k : Nat) (bl : List UInt8), k ≤ n1 ∧ i = .int .i64 k ∧ MB wr g bl ∧ n2 ≤ bl.length ∧ bl.length ≤ n2 ∧ Below w.heap.size w wr) (fun i _ => n1 - (intOf i).toNat)
    case atStart => exact ⟨0, b0, Nat.zero_le _, rfl, hmb0, hl01, hl02, hb5⟩
    case round =>
      obtain ⟨k, bl, hk, rfl, hmb, hl1, hl2, hbw⟩ := hrel
      by_cases hlt : k < n1
      · have hpos : 0 < n2 := by omega
        have hposb : decide (0 < n2) = true := decide_eq_true hpos
        have hkn2 : k < n2 := by omega
        have hnz : ¬ n2 = 0 := by omega
        obtain ⟨z, adz, rfl, hadz, hzc, hz0, hz1⟩ := (hz.below hbw).at_ hlt
        obtain ⟨adx, xb, rfl, hadx, _, hxc⟩ := (hx2.below hbw).get (show k < n2 by omega)
        obtain ⟨j, hj, hjn⟩ := spoil_idx z n2 hz0 hpos
        have hzw : IntKind.i64.wrap z = z := IntWalk.i64_in _ (by omega)
        obtain ⟨hbc, hbf⟩ := hmb.2 j bl[j] (List.getElem?_eq_getElem (by omega))
        have hxor := xor_byte bl[j] xb
        have hj0 : (0 : Int) ≤ (j : Int) := by omega
        have hj1 : (j : Int) < (n2 : Int) := by omega
        have hset := hmb.set_ j (bl[j] ^^^ xb) (by omega)
        have hbn := hbw.setCell (p := ⟨g, j, none⟩) hgw (.int .u8 ((bl[j] ^^^ xb).toNat : Int))
        go_wp2
        refine wp_still_tail 17 (by kernel_rfl) (by kernel_rfl) ?_
        simp only [List.take_succ_cons, List.take_zero, List.drop_succ_cons, List.drop_zero]
        repeat still_step
        refine wpStill_nil ?_
        go_wp2
        go_roundw
        case rel => exact ⟨k + 1, bl.set j (bl[j] ^^^ xb), by omega, by go_num, hset, by simpa using hl1, by simpa using hl2, hbn.drew⟩
        case measure => simp [intOf]; omega
      · clear hmb0 hl01 hl02
        obtain rfl : k = n1 := by omega
        have hN : bl.length = n2 := by omega
        have hs := hmb.sl (n := n2) (c := c0) hN (by omega)
        have HN := Lib.hid hN
        have hbls : bl.length ≤ 140737488355328 := by omega
        clear hN hl1 hl2 hmb
        go_wp2_with fail
        refine (fget_any _ _ _ _ _ _ hs (Nat.le_refl _) (by omega)).mono ?_
        rintro e w5 ⟨hb5', hcase⟩
        have hb5 := hbw.trans (hb5'.mono hbw.size)
        have hs5 := hs.below hb5'
        have hcv5 := string_of_sl (P := Try.prog) Try.underlying35 Try.underlying5 Try.underlying9 hs5
        clear hs
        rcases hcase with ⟨qs, nx, Ay, cy, hpg, rfl, how5⟩ | ⟨hno, rfl⟩
        · go_wp2_with fail
          refine (rfget_any w5 bl hbls).mono ?_
          rintro e w6 ⟨hb6', hcase⟩
          obtain ⟨A6, c6, he, how6⟩ : ∃ A6 c6, e = .returned (.tuple #[.slice A6 qs.length c6, .int .u32 (nx : Int), .int .i64 0]) ∧ w6.ownsRow w5.heap.size 74 2 (.slice A6 qs.length c6) qs.length (PCs qs) := by
            rcases hcase with ⟨qs', nx', A6, c6, hpg', he, how⟩ | ⟨hno, _⟩
            · obtain ⟨rfl, rfl⟩ := hpg.same hpg'
              exact ⟨A6, c6, he, how⟩
            · exact absurd hpg (hno _ _)
          subst he
          have hb6 := hb5.trans (hb6'.mono hb5.size)
          have h5 := (Prs.of_own how5).below hb6'
          have h6 := Prs.of_own how6
          have hz6 := hb6'.size
          have hql : qs.length ≤ 1000000 := by
            have h4 := hpg.2.2.1
            have h7 := h4.2.2.1
            have h8 : bl.length ≤ 4096 := by have := h4.2.1; omega
            rw [Int.toNat_natCast] at h7
            unfold fRoom at h7
            omega
          clear how5 how6 hcase hcv5
          go_wp2_with (first | (go_at_call 13; refine (alike_any _ _ _ Ay A6 _ cy _ c6 _ _ h5 h6 hz6 (Nat.le_refl _) hql hql rfl).mono ?_; rintro e w7 ⟨rfl, hb7⟩))
          go_ret
          exact ⟨rfl, hb6.trans (hb7.mono hb6.size)⟩
        · go_wp2_with fail
          refine (rfget_any w5 bl hbls).mono ?_
          rintro e w6 ⟨hb6', hcase⟩
          have he : e = .returned (.tuple #[.slice none 0 0, .int .u32 0, .int .i64 11]) := by
            rcases hcase with ⟨qs', nx', A6, c6, hpg', he, how⟩ | ⟨_, he⟩
            · exact absurd hpg' (hno _ _)
            · exact he
          subst he
          have hb6 := hb5.trans (hb6'.mono hb5.size)
          clear hcase hcv5 hno
          go_wp2_with (first | (go_at_call 13; refine (alike_any _ 0 0 none none 0 0 0 0 [] [] Prs.nil_ Prs.nil_ (Nat.zero_le _) (Nat.zero_le _) (by omega) (by omega) rfl).mono ?_; rintro e w7 ⟨rfl, hb7⟩))
          go_ret
          exact ⟨rfl, hb6.trans (hb7.mono hb6.size)⟩

end Go.Proofs.Ythmkmojlnfkfjaa
