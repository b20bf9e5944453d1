/- Laws of octet: OctetBack. -/
import Derived.Test.YthnehmfpadahiaaVarP
import Derived.Test.YthnehmfpadahiaaChainP
import Derived.OpenShut
namespace Go.Proofs.Ythnehmfpadahiaa
open Go.RowKit
set_option linter.unusedVariables false
set_option linter.unusedSimpArgs false

theorem Nums.at64 {w : World} {B : Nat} {A : Option Addr} {n c : Nat} {zs : List Int} (h : Nums .u64 w B A n c zs) {k : Nat} (hk : k < n) :
    ∃ (z : Nat) (ad : Addr), A = some ad ∧ ad.block < B ∧ (zs.map Int.toNat)[k]? = some z ∧ z < 18446744073709551616 ∧ w.cell? (ad.add k) = some (.int .u64 (z : Int)) := by
  have hlt : k < zs.length := by rw [h.1]; exact hk
  have hz : zs[k]? = some zs[k] := List.getElem?_eq_getElem hlt
  obtain ⟨ad, e, hb, hc⟩ := h.2.2.2.2 k _ hz
  have hw := bounds_u64 (h.2.2.2.1 zs[k] (List.getElem_mem hlt))
  refine ⟨zs[k].toNat, ad, e, hb, by simp [hz], by omega, ?_⟩
  rw [hc, Int.toNat_of_nonneg hw.1]

/-- What one round puts. -/
def bk (b : List UInt8) (n z : Nat) : List UInt8 := varB z ++ (numB z n ++ (varB b.length ++ b))
def bkAll (b : List UInt8) (n : Nat) (ys : List Nat) : List UInt8 := (ys.map (bk b n)).flatten
theorem bkAll_snoc (b : List UInt8) (n : Nat) (ys : List Nat) (k z : Nat) (h : ys[k]? = some z) : bkAll b n (ys.take (k + 1)) = bkAll b n (ys.take k) ++ bk b n z := by
  rw [take_snoc h]
  simp [bkAll]
theorem bkAll_drop (b : List UInt8) (n : Nat) (ys : List Nat) (k z : Nat) (h : ys[k]? = some z) : bkAll b n (ys.drop k) = bk b n z ++ bkAll b n (ys.drop (k + 1)) := by
  obtain ⟨hlt, hz⟩ := List.getElem?_eq_some_iff.1 h
  rw [List.drop_eq_getElem_cons hlt, hz]
  simp [bkAll]
theorem bk_length (b : List UInt8) (n z : Nat) (hn : n ≤ 8) (hb : b.length ≤ 300) : (bk b n z).length ≤ 400 := by
  have h1 := varB_length z
  have h2 := varB_length b.length
  simp [bk, numB_length]
  omega
theorem bkAll_length (b : List UInt8) (n : Nat) (ys : List Nat) (hn : n ≤ 8) (hb : b.length ≤ 300) : (bkAll b n ys).length ≤ 400 * ys.length := by
  induction ys with
  | nil => simp [bkAll]
  | cons y ys ih =>
    have := bk_length b n y hn hb
    have e : bkAll b n (y :: ys) = bk b n y ++ bkAll b n ys := by simp [bkAll]
    rw [e, List.length_append, List.length_cons]
    omega

theorem rb_back (b rest : List UInt8) (hb : b.length ≤ 300) : rbL (varB b.length ++ (b ++ rest)) 0 300 = b ∧ rbR (varB b.length ++ (b ++ rest)) 0 300 = rest ∧ rbE (varB b.length ++ (b ++ rest)) 0 300 = 0 := by
  obtain ⟨h1, h2, h3⟩ := var_back b.length (b ++ rest) (by omega)
  have hok : rbOk (varB b.length ++ (b ++ rest)) 0 300 := ⟨h3, by decide, by rw [h1]; omega⟩
  refine ⟨?_, ?_, ?_⟩
  · rw [rbL, if_pos hok, h1, h2, takeL_app rfl]
  · rw [rbR, if_pos hok, h1, h2, takeR_app rfl]
  · rw [rbE, if_neg (by rw [h3]; simp), if_pos hok, h1, h2, takeE_app rfl]

theorem mask_u64 (z S : Nat) (hz : z < 18446744073709551616) (hS : S < 8) : bits BinOp.and IntKind.u64 (z : Int) (IntKind.u64.wrap (IntKind.u64.wrap (2 ^ (8 * S)) - 1)) = ((z % 256 ^ S : Nat) : Int) := by
  have hp : 2 ^ (8 * S) ≤ 2 ^ 56 := Nat.pow_le_pow_right (by decide) (by omega)
  have h1 : 1 ≤ 2 ^ (8 * S) := Nat.one_le_two_pow
  have e : (2 : Int) ^ (8 * S) = ((2 ^ (8 * S) : Nat) : Int) := by simp
  have e3 : z &&& (2 ^ (8 * S) - 1) = z % 256 ^ S := by rw [Nat.and_two_pow_sub_one_eq_mod, Nat.pow_mul]
  rw [e, ← e3]
  generalize 2 ^ (8 * S) = P at hp h1 ⊢
  rw [IntWalk.u64_in (P : Int) (by omega), IntWalk.u64_in ((P : Int) - 1) (by omega)]
  have e2 : (P : Int) - 1 = ((P - 1 : Nat) : Int) := by omega
  rw [e2, u64_and_nat _ _ (by omega) (by omega)]

set_option maxRecDepth 100000 in
theorem octBack_law (w : World) (A : Option Addr) (n c : Nat) (zs : List Int) (hz : Nums .u64 w w.heap.size A n c zs) (A1 : Option Addr) (n1 c1 : Nat) (b : List UInt8) (h1 : Sl w w.heap.size A1 n1 c1 b) (X : Int) (hX : 0 ≤ X) (hX' : X ≤ 255) :
    Calls Try.prog 10 #[.slice A n c, .slice A1 n1 c1, .int .u8 X] w fun e w' => e = .returned (.bool true) ∧ Below w.heap.size w w' := by
  by_cases hn : 40 < n
  · have hnb : decide (40 < (n : Int)) = true := decide_eq_true (by omega)
    go_enter Try.func10, Try.ntmps10
    go_wp2_with (first | (go_at_call 23; refine (awake1 _).mono ?_; rintro e w1 ⟨rfl, hb1⟩))
    go_ret
    exact ⟨rfl, hb1⟩
  have hnb : decide (40 < (n : Int)) = false := decide_eq_false (by omega)
  by_cases hn1 : 300 < n1
  · have hnb1 : decide (300 < (n1 : Int)) = true := decide_eq_true (by omega)
    clear hn
    go_enter Try.func10, Try.ntmps10
    go_wp2_with (first | (go_at_call 23; refine (awake1 _).mono ?_; rintro e w1 ⟨rfl, hb1⟩))
    go_ret
    exact ⟨rfl, hb1⟩
  have hnb1 : decide (300 < (n1 : Int)) = false := decide_eq_false (by omega)
  have hn' : n ≤ 40 := by omega
  have hn1' : n1 ≤ 300 := by omega
  obtain ⟨x, rfl⟩ := Int.eq_ofNat_of_zero_le hX
  clear hn hn1
  obtain ⟨s, hs, hs8⟩ : ∃ s : Nat, (x : Int) % 8 = (s : Int) ∧ s ≤ 7 := ⟨x % 8, by simp, by omega⟩
  have HL1 := Lib.hid h1.len
  obtain ⟨ys, hys⟩ : ∃ ys, zs.map Int.toNat = ys := ⟨_, rfl⟩
  have hyl : ys.length = n := by rw [← hys, List.length_map]; exact hz.1
  have HYL := Lib.hid hyl
  have hat : ∀ (w' : World), Below w.heap.size w w' → ∀ k, k < n → ∃ (z : Nat) (ad : Addr), A = some ad ∧ ad.block < w.heap.size ∧ ys[k]? = some z ∧ z < 18446744073709551616 ∧ w'.cell? (ad.add k) = some (.int .u64 (z : Int)) := by
    intro w' hb k hk
    rw [← hys]
    exact (hz.below hb).at64 hk
  have HAT := Lib.hid hat
  clear hat hz hys hyl zs
  go_enter Try.func10, Try.ntmps10
  go_wp2_with (first | (go_at_call 23; refine (awake1 _).mono ?_; rintro e w1 ⟨rfl, hb1⟩))
  refine (new_w w1).mono ?_
  rintro e w2 ⟨rfl, hW2, hb2'⟩
  have hb2 := hb1.trans (hb2'.mono hb1.size)
  have hy2 := hb2'.size
  obtain ⟨g, hg⟩ : ∃ g, w1.heap.size = g := ⟨_, rfl⟩
  have hwg : w.heap.size ≤ g := by rw [← hg]; exact hb1.size
  rw [hg] at hW2 hy2 hb2' ⊢
  obtain ⟨S, hS⟩ : ∃ S : Nat, S = s + 1 := ⟨_, rfl⟩
  have hSi : (s : Int) + 1 = (S : Int) := by omega
  have hS8 : S ≤ 8 := by omega
  have hS1 : 1 ≤ S := by omega
  clear hS
  go_wp2_with fail
  clear hSi hs hs8
  go_loopw [10] (fun i wr => ∃ k : Nat, k ≤ n ∧ i = .int .i64 k ∧ IsW g wr g (bkAll b S (ys.take k)) ∧ g ≤ wr.heap.size ∧ Below w.heap.size w wr) (fun i _ => n - (intOf i).toNat)
  case atStart => exact ⟨0, Nat.zero_le _, rfl, hW2, hy2, hb2⟩
  case round =>
    obtain ⟨k, hk, rfl, hW, hgw, hbw⟩ := hrel
    have hlen := bkAll_length b S (ys.take k) hS8 (by rw [HL1.out]; exact hn1')
    have hlen2 : (bkAll b S (ys.take k)).length ≤ 16000 := by rw [List.length_take] at hlen; omega
    obtain ⟨W0, hW0⟩ : ∃ W0, bkAll b S (ys.take k) = W0 := ⟨_, rfl⟩
    rw [hW0] at hW hlen2
    have HW0 := Lib.hid hW0
    clear hW0 hlen
    by_cases hlt : k < n
    · obtain ⟨z, ad, rfl, had, hyz, hz64, hcell⟩ := HAT.out wr hbw k hlt
      have HYZ := Lib.hid hyz
      clear hyz
      go_wp2_with fail
      refine (var_i _ _ _ _ _ hW (by omega) (by omega) (by omega) hgw).mono ?_
      rintro e w3 ⟨rfl, hW3, hb3'⟩
      have hb3 := hbw.trans (hb3'.mono hwg)
      have hg3 : g ≤ w3.heap.size := by have := hb3'.size; omega
      have hcell3 : w3.cell? (ad.add k) = some (.int .u64 (z : Int)) := (hb3'.cell (by rw [block_of_add]; omega)).trans hcell
      have hvz := varB_length z
      rw [Int.toNat_natCast] at hW3
      clear hcell
      go_wp2_with fail
      refine (num_i _ _ _ _ _ _ hW3 (by omega) (by omega) (by omega) (by omega) (by rw [List.length_append]; omega) hg3).mono ?_
      rintro e w4 ⟨rfl, hW4, hb4'⟩
      have hb4 := hb3.trans (hb4'.mono hwg)
      have hg4 : g ≤ w4.heap.size := by have := hb4'.size; omega
      rw [Int.toNat_natCast, Int.toNat_natCast] at hW4
      clear hcell3
      go_wp2_with fail
      refine (wbytes_any _ _ _ _ hW4 hg4 _ _ _ _ _ (h1.below hb4) (by rw [List.length_append, List.length_append, numB_length]; omega) (fun w' hw' => h1.below (hb4.trans (hw'.mono hwg)))).mono ?_
      rintro e w5 ⟨rfl, hW5, hb5'⟩
      have hb5 := hb4.trans (hb5'.mono hwg)
      go_wp2_with fail
      go_roundw
      case rel =>
        refine ⟨k + 1, by omega, by go_num, ?_, by have := hb5'.size; omega, hb5⟩
        rw [bkAll_snoc _ _ _ _ _ HYZ.out, HW0.out]
        unfold bk
        rw [HL1.out]
        simpa using hW5
      case measure => simp [intOf]; omega
    · have hkn : k = n := by omega
      subst hkn
      have hyt : ys.take k = ys := List.take_of_length_le (by rw [HYL.out]; exact Nat.le_refl _)
      rw [hyt] at HW0
      clear hyt hlt hk
      go_wp2_with fail
      refine (out_any _ _ _ _ hW (by omega)).mono ?_
      rintro e w3 ⟨A3, n3, c3, rfl, ho3, hb3'⟩
      have hb3 := hbw.trans (hb3'.mono hbw.size)
      have hs3 := Sl.of_own ho3
      have hn3 : n3 ≤ 16000 := by have := hs3.len; omega
      go_wp2_with fail
      refine (new_r _ _ _ _ _ _ hs3 (by omega)).mono ?_
      rintro e w4 ⟨gr, rfl, hR4, hgr, hb4'⟩
      have hb4 := hb3.trans (hb4'.mono hb3.size)
      have hgrw : w.heap.size ≤ gr := Nat.le_trans hb3.size hgr
      rw [← HW0.out] at hR4
      clear hs3 ho3 hW
      go_wp2_with fail
      go_loopw [12] (fun i wr => ∃ j : Nat, j ≤ k ∧ i = .int .i64 j ∧ IsR wr gr (bkAll b S (ys.drop j)) 0 ∧ Below w.heap.size w wr) (fun i _ => k - (intOf i).toNat)
      case atStart => exact ⟨0, Nat.zero_le _, rfl, hR4, hb4⟩
      case round =>
        obtain ⟨j, hj, rfl, hR, hbw⟩ := hrel
        clear hb4 hb4' hb3 hb3' hR4
        by_cases hlt : j < k
        · obtain ⟨z, ad, rfl, had, hyz, hz64, hcell⟩ := HAT.out wr hbw j hlt
          have hlen := bkAll_length b S (ys.drop j) hS8 (by rw [HL1.out]; exact hn1')
          have hlen2 : (bkAll b S (ys.drop j)).length ≤ 16000 := by have := HYL.out; rw [List.length_drop] at hlen; omega
          rw [bkAll_drop _ _ _ _ _ hyz] at hR hlen2
          obtain ⟨rest, hrest⟩ : ∃ rest, bkAll b S (ys.drop (j + 1)) = rest := ⟨_, rfl⟩
          rw [hrest] at hR hlen2
          have HREST := Lib.hid hrest
          simp only [bk, List.append_assoc] at hR hlen2
          obtain ⟨q1, q2, q3⟩ := var_back z (numB z S ++ (varB b.length ++ (b ++ rest))) hz64
          have HQ1 := Lib.hid q1
          have HQ2 := Lib.hid q2
          have HQ3 := Lib.hid q3
          clear q1 q2 q3
          clear hyz hrest hlen
          go_wp2_with fail
          refine (rvar_any _ _ _ _ hR (by omega)).mono ?_
          rintro e w5 ⟨x5, rfl, hx5, hx5l, hR5, hA5⟩
          have hx := hx5.out
          rw [HQ1.out] at hx
          have hx' := hx.symm
          subst hx'
          rw [HQ2.out, HQ3.out] at hR5
          have hb5 := hbw.trans (hA5.below hgrw hbw.size)
          clear hx5
          go_wp2_with fail
          refine (rnum_i _ _ _ _ _ hR5 (by omega) (by omega)).mono ?_
          rintro e w6 ⟨y, rfl, hy, hyb, hR6, hA6⟩
          have hy1 := hy.out
          rw [Int.toNat_natCast, takeL_app (numB_length _ _), be_numB] at hy1
          rw [Int.toNat_natCast, takeR_app (numB_length _ _), takeE_app (numB_length _ _)] at hR6
          have hb6 := hb5.trans (hA6.below hgrw hb5.size)
          have HY := Lib.hid hy1
          clear hy hy1 hyb
          go_wp2_with fail
          have hl6 : (varB b.length ++ (b ++ rest)).length ≤ 16000 := by simp only [List.length_append] at hlen2 ⊢; omega
          refine (rbytes_any _ _ _ _ 300 hR6 (by omega) (by omega)).mono ?_
          rintro e w7 ⟨A7, n7, c7, rfl, ho7, hR7, hA7⟩
          obtain ⟨r1, r2, r3⟩ := rb_back b rest (by rw [HL1.out]; exact hn1')
          rw [r1] at ho7
          rw [r2, r3] at hR7
          clear r1 r2 r3
          have hb7 := hb6.trans (hA7.below hgrw hb6.size)
          have hcv0 := string_of_sl (P := Try.prog) Try.underlying22 Try.underlying5 Try.underlying9 (h1.below hb7)
          have hcv1 := string_of_sl (P := Try.prog) Try.underlying22 Try.underlying5 Try.underlying9 (Sl.of_own ho7)
          have hcell7 : w7.cell? (ad.add j) = some (.int .u64 (z : Int)) := ((hb7.cell (p := ad.add j) (by rw [block_of_add]; exact had)).trans (hbw.cell (p := ad.add j) (by rw [block_of_add]; exact had)).symm).trans hcell
          clear hcell ho7 hR5 hR6
          by_cases hS7 : S < 8
          · have hmask := mask_u64 z S hz64 hS7
            rw [← HY.out] at hmask
            go_wp2_with fail
            go_roundw
            case rel => exact ⟨j + 1, by omega, by go_num, by rw [HREST.out]; exact hR7, hb7.trans (Below.refl _ _)⟩
            case measure => simp [intOf]; omega
          · have hS8' : S = 8 := by omega
            have hyz : z = y := by rw [HY.out, hS8']; exact (Nat.mod_eq_of_lt (by simpa using hz64)).symm
            have hS7d : decide ((S : Int) < 8) = false := decide_eq_false (by omega)
            clear hS8' hS7
            subst hyz
            go_wp2_with fail
            go_roundw
            case rel => exact ⟨j + 1, by omega, by go_num, by rw [HREST.out]; exact hR7, hb7.trans (Below.refl _ _)⟩
            case measure => simp [intOf]; omega
        · have hjk : j = k := by omega
          subst hjk
          have he : bkAll b S (ys.drop j) = [] := by rw [List.drop_of_length_le (by rw [HYL.out]; exact Nat.le_refl _)]; rfl
          rw [he] at hR
          have hend := end_any _ _ _ _ hR
          rw [show endE [] 0 = 0 from rfl] at hend
          clear hlt hj he
          go_wp2_with (first | (go_at_call 37; refine hend.mono ?_; rintro r w' ⟨rfl, rfl⟩))
          go_ret
          exact ⟨rfl, hbw⟩

end Go.Proofs.Ythnehmfpadahiaa
