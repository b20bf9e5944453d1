/- Laws of octet: OctetPuts. -/
import Derived.Test.YthnehmfpadahiaaOctN
namespace Go.Proofs.Ythnehmfpadahiaa
open Go.RowKit
set_option linter.unusedVariables false
set_option linter.unusedSimpArgs false

theorem wbytes_sp (B g : Nat) (l : List UInt8) (w : World) (h : IsW B w g l) (hB : B ≤ w.heap.size) (D : Nat) (A : Option Addr) (n c : Nat) (m : List UInt8) (hm : Sl w D A n c m) (hl : l.length + n ≤ 1099511627776) (hw : ∀ w', Below B w w' → Sl w' D A n c m) :
    Calls Try.prog 29 #[.pointer (some ⟨g, 0, none⟩), .slice A n c] w fun e w' => e = .returned (.tuple #[]) ∧ IsW B w' g (l ++ (varB n ++ m)) ∧ Below B w w' ∧ Spares g w w' := by
  have hvl := varB_length n
  go_enter Try.func29, Try.ntmps29
  have hw64 : IntKind.u64.wrap (n : Int) = (n : Int) := IntWalk.u64_in _ (by omega)
  go_wp2_with fail
  refine (var_keep _ _ _ _ _ h (by omega) (by omega) (by omega) hB).mono ?_
  rintro e w1 ⟨rfl, hW1, hb1, hs1⟩
  simp only [Int.toNat_natCast] at hW1
  have hm1 := hw _ hb1
  have hB1 : B ≤ w1.heap.size := Nat.le_trans hB hb1.size
  clear hw hm
  go_wp2_with fail
  refine (raw_keep _ _ _ _ hW1 hB1 _ _ _ _ _ hm1 (by simp; omega)).mono ?_
  rintro e w2 ⟨rfl, hW2, hb2, hs2⟩
  go_wp2_with fail
  go_end0
  exact ⟨rfl, by rw [← List.append_assoc]; exact hW2, hb1.trans hb2, hs1.trans hs2⟩

/-- What a number of a size puts. -/
def P0 (x m : Int) : List UInt8 := if 1 ≤ m ∧ m ≤ 8 then numB x.toNat m.toNat else []
theorem P0_len (x m : Int) : (P0 x m).length ≤ 8 := by
  unfold P0
  split
  · rw [numB_length]; omega
  · simp
theorem puts_num (B g : Nat) (l : List UInt8) (x m : Int) (w : World) (h : IsW B w g l) (hx : 0 ≤ x) (hx' : x ≤ 18446744073709551615) (hl : l.length ≤ 1099511627776) (hB : B ≤ w.heap.size) :
    Calls Try.prog 25 #[.pointer (some ⟨g, 0, none⟩), .int .u64 x, .int .i64 m] w fun e w' => e = .returned (.tuple #[]) ∧ IsW B w' g (l ++ P0 x m) ∧ Below B w w' ∧ Spares g w w' := by
  by_cases hm : 1 ≤ m ∧ m ≤ 8
  · obtain ⟨y, rfl⟩ := Int.eq_ofNat_of_zero_le hx
    obtain ⟨s, rfl⟩ := Int.eq_ofNat_of_zero_le (show 0 ≤ m by omega)
    rw [P0, if_pos hm]
    exact num_keep B g l y (by omega) s (by omega) (by omega) w h hl hB
  · refine (num_no w g x m hm).mono ?_
    rintro e w' ⟨rfl, rfl⟩
    rw [P0, if_neg hm, List.append_nil]
    exact ⟨rfl, h, Below.refl _ _, fun k hk => ⟨hk, rfl⟩⟩
theorem ref_num (w : World) (x m : Int) (hx : 0 ≤ x) (hx' : x ≤ 18446744073709551615) :
    Calls Try.prog 26 #[.int .u64 x, .int .i64 m] w fun e w' => ∃ s : ByteArray, e = .returned (.string s) ∧ Hid (s = st (P0 x m)) ∧ s.size ≤ 311 ∧ Below w.heap.size w w' := by
  by_cases hm : 1 ≤ m ∧ m ≤ 8
  · refine (refnum_i w x m hx hx' hm.1 hm.2).mono ?_
    rintro e w' ⟨s, rfl, hs, h1, h2, hb⟩
    exact ⟨s, rfl, Lib.hid (by rw [P0, if_pos hm]; exact hs.out), by omega, hb⟩
  · refine (refnum_no w x m hm).mono ?_
    rintro e w' ⟨rfl, rfl⟩
    exact ⟨_, rfl, Lib.hid (by rw [P0, if_neg hm]), by decide, Below.refl _ _⟩
theorem ref_var (w : World) (x : Int) (hx : 0 ≤ x) (hx' : x ≤ 18446744073709551615) :
    Calls Try.prog 28 #[.int .u64 x] w fun e w' => ∃ s : ByteArray, e = .returned (.string s) ∧ Hid (s = st (varB x.toNat)) ∧ s.size ≤ 311 ∧ Below w.heap.size w w' := by
  refine (refvar_s w x hx hx').mono ?_
  rintro e w' ⟨s, rfl, hs, h1, hb⟩
  exact ⟨s, rfl, hs, by omega, hb⟩
theorem ref_bytes (w : World) (l : List UInt8) (n : Nat) (hn : l.length = n) (hl : n ≤ 300) :
    Calls Try.prog 30 #[.string ⟨l.toArray⟩] w fun e w' => ∃ s : ByteArray, e = .returned (.string s) ∧ Hid (s = st (varB n ++ l)) ∧ s.size ≤ 311 ∧ Below w.heap.size w w' := by
  refine (refbytes_any w l (by omega)).mono ?_
  rintro e w' ⟨rfl, hb⟩
  refine ⟨_, rfl, Lib.hid (by rw [hn]), ?_, hb⟩
  have := varB_length n
  simp [ByteArray.size]
  rw [hn]
  omega

theorem cat_st (T s : ByteArray) (L M : List UInt8) (hT : T = st L) (hs : s = st M) : T ++ s = (⟨(L ++ M).toArray⟩ : ByteArray) := by
  rw [hT, hs]; exact st_append L M

set_option maxRecDepth 100000 in
set_option maxHeartbeats 4000000 in
theorem octPuts_law (w : World) (A1 : Option Addr) (n1 c1 : Nat) (hs : Acts w w.heap.size A1 n1) (hn1 : n1 ≤ c1) (hn1' : c1 ≤ 9223372036854775807) :
    Calls Try.prog 9 #[.slice A1 n1 c1] w fun e w' => e = .returned (.bool true) ∧ Below w.heap.size w w' := by
  go_enter Try.func9, Try.ntmps9
  go_wp2_with (first | (go_at_call 23; refine (awake1 _).mono ?_; rintro e w1 ⟨rfl, hb1⟩))
  refine (new_w w1).mono ?_
  rintro e w2 ⟨rfl, hW2, hb2'⟩
  have hb2 := hb1.trans (hb2'.mono hb1.size)
  have hy2 := hb2'.size
  obtain ⟨g, hg⟩ : ∃ g, w1.heap.size = g := ⟨_, rfl⟩
  have hwg : w.heap.size ≤ g := by rw [← hg]; exact hb1.size
  rw [hg] at hW2 hy2 hb2' ⊢
  have HS := Lib.hid hs
  clear hs
  go_wp2_with fail
  go_loopw [6, 7] (fun sv i wr => ∃ (k : Nat) (L : List UInt8) (T : ByteArray), i = .int .i64 (k : Int) ∧ k ≤ n1 ∧ k ≤ 40 ∧ sv = .string T ∧ Hid (T = st L) ∧ T.size ≤ 320 * k ∧ L.length ≤ 320 * k ∧ IsW g wr g L ∧ g ≤ wr.heap.size ∧ Below w.heap.size w wr) (fun _ i _ => n1 - (intOf i).toNat)
  case atStart => exact ⟨0, [], _, rfl, Nat.zero_le _, Nat.zero_le _, rfl, Lib.hid rfl, by decide, by simp, hW2, hy2, hb2⟩
  case round =>
    obtain ⟨k, L, T, rfl, hk, hk40, rfl, hT, hTl, hLl, hW, hgw, hbw⟩ := hrel
    by_cases hlt : k < n1 ∧ k < 40
    · obtain ⟨hlt1, hlt2⟩ := hlt
      obtain ⟨ad, kk, x, m, A2, n2, c2, l2, rfl, hact⟩ := HS.out.below hbw k hlt1
      obtain ⟨a1, a2, a3, a4, a5, a6, a7, a8, a9, a10, a11, a12⟩ := hact
      have b5 : wr.cell? ⟨(ad.add (k * 4)).block, (ad.add (k * 4)).off + 1, none⟩ = some (.int .u64 x) := a5
      have b8 : wr.cell? ⟨(ad.add (k * 4)).block, (ad.add (k * 4)).off + 2, none⟩ = some (.int .i64 m) := a8
      have b11 : wr.cell? ⟨(ad.add (k * 4)).block, (ad.add (k * 4)).off + 3, none⟩ = some (.slice A2 n2 c2) := a11
      obtain ⟨kn, rfl⟩ := Int.eq_ofNat_of_zero_le a3
      by_cases hlong : 300 < n2
      · have hlb : decide (300 < (n2 : Int)) = true := decide_eq_true (by omega)
        go_wp2_with fail
        go_ret
        exact ⟨rfl, hbw.alloc hbw.size _⟩
      have hlb : decide (300 < (n2 : Int)) = false := decide_eq_false (by omega)
      have hn2 : n2 ≤ 300 := by omega
      clear hlong
      have hq := and3 kn (by omega)
      obtain ⟨q, hqq⟩ : ∃ q, wr.heap.size = q := ⟨_, rfl⟩
      have hL2 := Lib.hid a12.len
      have hl2w : ∀ w', Below w.heap.size w w' → ∃ (l2' : List UInt8), True := fun _ _ => ⟨[], trivial⟩
      have hsl : Sl wr w.heap.size A2 n2 c2 l2 := a12
      have hW3 := hW.below ((Below.refl wr.heap.size wr).alloc (Nat.le_refl _) (.cells #[.int .u8 (kn : Int), .int .u64 x, .int .i64 m, .slice A2 n2 c2] 53))
      have hav := hW.avoid (.cells #[.int .u8 (kn : Int), .int .u64 x, .int .i64 m, .slice A2 n2 c2] 53)
      have hblk := heap_alloc_new wr (.cells #[.int .u8 (kn : Int), .int .u64 x, .int .i64 m, .slice A2 n2 c2] 53)
      have hbw3 := hbw.alloc hbw.size (.cells #[.int .u8 (kn : Int), .int .u64 x, .int .i64 m, .slice A2 n2 c2] 53)
      have hgw3 : g ≤ (wr.alloc (.cells #[.int .u8 (kn : Int), .int .u64 x, .int .i64 m, .slice A2 n2 c2] 53)).heap.size := Nat.le_trans hgw (by simp)
      have hsl3 := hsl.below ((Below.refl w.heap.size wr).alloc hbw.size (.cells #[.int .u8 (kn : Int), .int .u64 x, .int .i64 m, .slice A2 n2 c2] 53))
      have HLT1 := Lib.hid hlt1
      have HLT2 := Lib.hid hlt2
      have HLl := Lib.hid hLl
      have hLb : L.length ≤ 12800 := by omega
      have hTb : T.size ≤ 12800 := by omega
      clear hLl hl2w hsl
      rcases hq with hq | hq | hq | hq
      · go_wp2_with fail
        refine (puts_num _ _ _ _ _ _ hW3 a6 a7 (by omega) hgw3).mono ?_
        rintro e w4 ⟨rfl, hW4, hb4', hsp4⟩
        have hblk4 := (hsp4 _ hav).2.trans hblk
        have hb4 := hbw3.trans (hb4'.mono hwg)
        have hsl4 := hsl3.below (hb4'.mono hwg)
        have hg4 : g ≤ w4.heap.size := Nat.le_trans hgw3 hb4'.size
        rw [hqq] at hblk4
        have d1 := blk_cell hblk4 1
        have d2 := blk_cell hblk4 2
        have d3 := blk_cell hblk4 3
        have hqlt := blk_lt hblk4
        clear hW3 hav hblk hgw3 hsp4 hbw3 hq hsl3 hb4'
        go_wp2_with fail
        refine (num_nil _ _ _).mono ?_
        rintro e w5 ⟨rfl, hww⟩
        subst hww
        have hW5 := hW4
        have hb5 := hb4
        have hsl5 := hsl4
        have hg5 := hg4
        have hM : (P0 x m).length ≤ 311 := by have := P0_len x m; omega
        obtain ⟨M, hMM⟩ : ∃ M, P0 x m = M := ⟨_, rfl⟩
        have hcvb := string_of_sl (P := Try.prog) Try.underlying22 Try.underlying5 Try.underlying9 hsl5
        go_wp2_with fail
        refine (ref_num _ _ _ a6 a7).mono ?_
        rintro e w6 ⟨s, rfl, hsM, hsl, hb6'⟩
        rw [hMM] at hM hW5
        have hcat := cat_st T s L M hT.out (hsM.out.trans (by rw [hMM]))
        have hW6 := hW5.below hb6'
        have hb6 := hb5.trans (hb6'.mono hb5.size)
        have hg6 : g ≤ w6.heap.size := Nat.le_trans hg5 hb6'.size
        have hLM : (L ++ M).length ≤ 320 * (k + 1) := by have := HLl.out; rw [List.length_append]; omega
        obtain ⟨L2, hL2e⟩ : ∃ L2, L ++ M = L2 := ⟨_, rfl⟩
        rw [hL2e] at hW6 hLM hcat
        have hT2 : (⟨L2.toArray⟩ : ByteArray).size = L2.length := by simp [ByteArray.size]
        have HLM := Lib.hid hLM
        clear hLM hM hMM hL2e hcvb hW5 hsM
        have hL2b : L2.length ≤ 13200 := by have := HLM.out; have := HLT2.out; omega
        go_wp2_with fail
        refine (out_any _ _ _ _ hW6 (by omega)).mono ?_
        rintro e w7 ⟨A7, n7, c7, rfl, ho7, hb7'⟩
        have hcvo := string_of_sl (P := Try.prog) Try.underlying22 Try.underlying5 Try.underlying9 (Sl.of_own ho7)
        have hW7 := hW6.below hb7'
        have hb7 := hb6.trans (hb7'.mono hb6.size)
        have hg7 := Nat.le_trans hg6 hb7'.size
        clear hcat ho7 hW6
        go_wp2_with fail
        go_roundw
        case rel => exact ⟨k + 1, L2, ⟨L2.toArray⟩, by go_num, by have := HLT1.out; omega, by have := HLT2.out; omega, rfl, Lib.hid rfl, by rw [hT2]; exact HLM.out, HLM.out, hW7, hg7, hb7⟩
        case measure => simp [intOf]; have := HLT1.out; omega
      · go_wp2_with fail
        refine (var_keep _ _ _ _ _ hW3 a6 a7 (by omega) hgw3).mono ?_
        rintro e w4 ⟨rfl, hW4, hb4', hsp4⟩
        have hblk4 := (hsp4 _ hav).2.trans hblk
        have hb4 := hbw3.trans (hb4'.mono hwg)
        have hsl4 := hsl3.below (hb4'.mono hwg)
        have hg4 : g ≤ w4.heap.size := Nat.le_trans hgw3 hb4'.size
        rw [hqq] at hblk4
        have d1 := blk_cell hblk4 1
        have d2 := blk_cell hblk4 2
        have d3 := blk_cell hblk4 3
        have hqlt := blk_lt hblk4
        clear hW3 hav hblk hgw3 hsp4 hbw3 hq hsl3 hb4'
        go_wp2_with fail
        refine (var_nil _ _ a6 a7).mono ?_
        rintro e w5 ⟨rfl, hb5'⟩
        have hblk5 := blk_below hblk4 hb5' hqlt
        have hW5 := hW4.below hb5'
        have hb5 := hb4.trans (hb5'.mono hb4.size)
        have hsl5 := hsl4.below (hb5'.mono hb4.size)
        have hg5 : g ≤ w5.heap.size := Nat.le_trans hg4 hb5'.size
        have f1 := blk_cell hblk5 1
        have f2 := blk_cell hblk5 2
        have f3 := blk_cell hblk5 3
        clear d1 d2 d3 hblk4 hW4 hb4 hsl4
        have hM : (varB x.toNat).length ≤ 311 := by have := varB_length x.toNat; omega
        obtain ⟨M, hMM⟩ : ∃ M, varB x.toNat = M := ⟨_, rfl⟩
        have hcvb := string_of_sl (P := Try.prog) Try.underlying22 Try.underlying5 Try.underlying9 hsl5
        go_wp2_with fail
        refine (ref_var _ _ a6 a7).mono ?_
        rintro e w6 ⟨s, rfl, hsM, hsl, hb6'⟩
        rw [hMM] at hM hW5
        have hcat := cat_st T s L M hT.out (hsM.out.trans (by rw [hMM]))
        have hW6 := hW5.below hb6'
        have hb6 := hb5.trans (hb6'.mono hb5.size)
        have hg6 : g ≤ w6.heap.size := Nat.le_trans hg5 hb6'.size
        have hLM : (L ++ M).length ≤ 320 * (k + 1) := by have := HLl.out; rw [List.length_append]; omega
        obtain ⟨L2, hL2e⟩ : ∃ L2, L ++ M = L2 := ⟨_, rfl⟩
        rw [hL2e] at hW6 hLM hcat
        have hT2 : (⟨L2.toArray⟩ : ByteArray).size = L2.length := by simp [ByteArray.size]
        have HLM := Lib.hid hLM
        clear hLM hM hMM hL2e hcvb hW5 hsM
        have hL2b : L2.length ≤ 13200 := by have := HLM.out; have := HLT2.out; omega
        go_wp2_with fail
        refine (out_any _ _ _ _ hW6 (by omega)).mono ?_
        rintro e w7 ⟨A7, n7, c7, rfl, ho7, hb7'⟩
        have hcvo := string_of_sl (P := Try.prog) Try.underlying22 Try.underlying5 Try.underlying9 (Sl.of_own ho7)
        have hW7 := hW6.below hb7'
        have hb7 := hb6.trans (hb7'.mono hb6.size)
        have hg7 := Nat.le_trans hg6 hb7'.size
        clear hcat ho7 hW6
        go_wp2_with fail
        go_roundw
        case rel => exact ⟨k + 1, L2, ⟨L2.toArray⟩, by go_num, by have := HLT1.out; omega, by have := HLT2.out; omega, rfl, Lib.hid rfl, by rw [hT2]; exact HLM.out, HLM.out, hW7, hg7, hb7⟩
        case measure => simp [intOf]; have := HLT1.out; omega
      · go_wp2_with fail
        refine (wbytes_sp _ _ _ _ hW3 hgw3 _ _ _ _ _ hsl3 (by omega) (fun w' hw' => hsl3.below (hw'.mono hwg))).mono ?_
        rintro e w4 ⟨rfl, hW4, hb4', hsp4⟩
        have hblk4 := (hsp4 _ hav).2.trans hblk
        have hb4 := hbw3.trans (hb4'.mono hwg)
        have hsl4 := hsl3.below (hb4'.mono hwg)
        have hg4 : g ≤ w4.heap.size := Nat.le_trans hgw3 hb4'.size
        rw [hqq] at hblk4
        have d1 := blk_cell hblk4 1
        have d2 := blk_cell hblk4 2
        have d3 := blk_cell hblk4 3
        have hqlt := blk_lt hblk4
        clear hW3 hav hblk hgw3 hsp4 hbw3 hq hsl3 hb4'
        go_wp2_with fail
        refine (wbytes_nil _ _ _ _ hn2).mono ?_
        rintro e w5 ⟨rfl, hb5'⟩
        have hblk5 := blk_below hblk4 hb5' hqlt
        have hW5 := hW4.below hb5'
        have hb5 := hb4.trans (hb5'.mono hb4.size)
        have hsl5 := hsl4.below (hb5'.mono hb4.size)
        have hg5 : g ≤ w5.heap.size := Nat.le_trans hg4 hb5'.size
        have f1 := blk_cell hblk5 1
        have f2 := blk_cell hblk5 2
        have f3 := blk_cell hblk5 3
        clear d1 d2 d3 hblk4 hW4 hb4 hsl4
        have hM : (varB n2 ++ l2).length ≤ 311 := by have := varB_length n2; have := hL2.out; simp; omega
        obtain ⟨M, hMM⟩ : ∃ M, varB n2 ++ l2 = M := ⟨_, rfl⟩
        have hcvb := string_of_sl (P := Try.prog) Try.underlying22 Try.underlying5 Try.underlying9 hsl5
        go_wp2_with fail
        refine (ref_bytes _ l2 n2 hL2.out hn2).mono ?_
        rintro e w6 ⟨s, rfl, hsM, hsl, hb6'⟩
        rw [hMM] at hM hW5
        have hcat := cat_st T s L M hT.out (hsM.out.trans (by rw [hMM]))
        have hW6 := hW5.below hb6'
        have hb6 := hb5.trans (hb6'.mono hb5.size)
        have hg6 : g ≤ w6.heap.size := Nat.le_trans hg5 hb6'.size
        have hLM : (L ++ M).length ≤ 320 * (k + 1) := by have := HLl.out; rw [List.length_append]; omega
        obtain ⟨L2, hL2e⟩ : ∃ L2, L ++ M = L2 := ⟨_, rfl⟩
        rw [hL2e] at hW6 hLM hcat
        have hT2 : (⟨L2.toArray⟩ : ByteArray).size = L2.length := by simp [ByteArray.size]
        have HLM := Lib.hid hLM
        clear hLM hM hMM hL2e hcvb hW5 hsM
        have hL2b : L2.length ≤ 13200 := by have := HLM.out; have := HLT2.out; omega
        go_wp2_with fail
        refine (out_any _ _ _ _ hW6 (by omega)).mono ?_
        rintro e w7 ⟨A7, n7, c7, rfl, ho7, hb7'⟩
        have hcvo := string_of_sl (P := Try.prog) Try.underlying22 Try.underlying5 Try.underlying9 (Sl.of_own ho7)
        have hW7 := hW6.below hb7'
        have hb7 := hb6.trans (hb7'.mono hb6.size)
        have hg7 := Nat.le_trans hg6 hb7'.size
        clear hcat ho7 hW6
        go_wp2_with fail
        go_roundw
        case rel => exact ⟨k + 1, L2, ⟨L2.toArray⟩, by go_num, by have := HLT1.out; omega, by have := HLT2.out; omega, rfl, Lib.hid rfl, by rw [hT2]; exact HLM.out, HLM.out, hW7, hg7, hb7⟩
        case measure => simp [intOf]; have := HLT1.out; omega
      · go_wp2_with fail
        refine (raw_keep _ _ _ _ hW3 hgw3 _ _ _ _ _ hsl3 (by omega)).mono ?_
        rintro e w4 ⟨rfl, hW4, hb4', hsp4⟩
        have hblk4 := (hsp4 _ hav).2.trans hblk
        have hb4 := hbw3.trans (hb4'.mono hwg)
        have hsl4 := hsl3.below (hb4'.mono hwg)
        have hg4 : g ≤ w4.heap.size := Nat.le_trans hgw3 hb4'.size
        rw [hqq] at hblk4
        have d1 := blk_cell hblk4 1
        have d2 := blk_cell hblk4 2
        have d3 := blk_cell hblk4 3
        have hqlt := blk_lt hblk4
        clear hW3 hav hblk hgw3 hsp4 hbw3 hq hsl3 hb4'
        go_wp2_with fail
        refine (raw_nil _ _ _ _).mono ?_
        rintro e w5 ⟨rfl, hww⟩
        subst hww
        have hW5 := hW4
        have hb5 := hb4
        have hsl5 := hsl4
        have hg5 := hg4
        have hM : (l2).length ≤ 311 := by have := hL2.out; omega
        obtain ⟨M, hMM⟩ : ∃ M, l2 = M := ⟨_, rfl⟩
        have hcvb := string_of_sl (P := Try.prog) Try.underlying22 Try.underlying5 Try.underlying9 hsl5
        have hsz : (⟨l2.toArray⟩ : ByteArray).size ≤ 300 := by have := hL2.out; simp [ByteArray.size]; omega
        have hcat := cat_st T ⟨l2.toArray⟩ L M hT.out (by rw [← hMM])
        rw [hMM] at hM hW5
        have hW6 := hW5
        have hb6 := hb5
        have hg6 := hg5
        have hLM : (L ++ M).length ≤ 320 * (k + 1) := by have := HLl.out; rw [List.length_append]; omega
        obtain ⟨L2, hL2e⟩ : ∃ L2, L ++ M = L2 := ⟨_, rfl⟩
        rw [hL2e] at hW6 hLM hcat
        have hT2 : (⟨L2.toArray⟩ : ByteArray).size = L2.length := by simp [ByteArray.size]
        have HLM := Lib.hid hLM
        have hll2 := hL2.out
        clear hLM hM hMM hL2e hW5
        have hL2b : L2.length ≤ 13200 := by have := HLM.out; have := HLT2.out; omega
        go_wp2_with fail
        refine (out_any _ _ _ _ hW6 (by omega)).mono ?_
        rintro e w7 ⟨A7, n7, c7, rfl, ho7, hb7'⟩
        have hcvo := string_of_sl (P := Try.prog) Try.underlying22 Try.underlying5 Try.underlying9 (Sl.of_own ho7)
        have hW7 := hW6.below hb7'
        have hb7 := hb6.trans (hb7'.mono hb6.size)
        have hg7 := Nat.le_trans hg6 hb7'.size
        clear hcat ho7 hW6
        go_wp2_with fail
        go_roundw
        case rel => exact ⟨k + 1, L2, ⟨L2.toArray⟩, by go_num, by have := HLT1.out; omega, by have := HLT2.out; omega, rfl, Lib.hid rfl, by rw [hT2]; exact HLM.out, HLM.out, hW7, hg7, hb7⟩
        case measure => simp [intOf]; have := HLT1.out; omega
    · by_cases hk1 : k < n1
      · have hk40' : ¬ k < 40 := fun hh => hlt ⟨hk1, hh⟩
        clear hlt
        go_wp2_with (first | (go_at_call 32; refine (out_nil _).mono ?_; rintro e w' ⟨rfl, rfl⟩))
        go_ret
        exact ⟨rfl, hbw⟩
      · clear hlt
        go_wp2_with (first | (go_at_call 32; refine (out_nil _).mono ?_; rintro e w' ⟨rfl, rfl⟩))
        go_ret
        exact ⟨rfl, hbw⟩

end Go.Proofs.Ythnehmfpadahiaa
