/- Laws of octet: OctetErrs. -/
import Derived.Test.YthnehmfpadahiaaOctZ
namespace Go.Proofs.Ythnehmfpadahiaa
open Go.RowKit
set_option linter.unusedVariables false
set_option linter.unusedSimpArgs false

/-- What one act of a script holds. -/
def ActAt (w : World) (B : Nat) (ad : Addr) (k x m : Int) (A : Option Addr) (n c : Nat) (l : List UInt8) : Prop :=
  ad.block < B ∧ w.cell? ad = some (.int .u8 k) ∧ 0 ≤ k ∧ k ≤ 255 ∧ w.cell? (ad.add 1) = some (.int .u64 x) ∧ 0 ≤ x ∧ x ≤ 18446744073709551615 ∧
    w.cell? (ad.add 2) = some (.int .i64 m) ∧ -9223372036854775808 ≤ m ∧ m ≤ 9223372036854775807 ∧ w.cell? (ad.add 3) = some (.slice A n c) ∧ Sl w B A n c l
theorem ActAt.below {w w' : World} {B : Nat} {ad : Addr} {k x m : Int} {A : Option Addr} {n c : Nat} {l : List UInt8} (h : ActAt w B ad k x m A n c l) (hb : Below B w w') : ActAt w' B ad k x m A n c l := by
  obtain ⟨h1, h2, h3, h4, h5, h6, h7, h8, h9, h10, h11, h12⟩ := h
  refine ⟨h1, (hb.cell h1).trans h2, h3, h4, (hb.cell (by rw [block_of_add]; exact h1)).trans h5, h6, h7, (hb.cell (by rw [block_of_add]; exact h1)).trans h8, h9, h10, (hb.cell (by rw [block_of_add]; exact h1)).trans h11, h12.below hb⟩
/-- A script that came in. -/
def Acts (w : World) (B : Nat) (A : Option Addr) (n : Nat) : Prop :=
  ∀ i, i < n → ∃ (ad : Addr) (k x m : Int) (A1 : Option Addr) (n1 c1 : Nat) (l : List UInt8), A = some ad ∧ ActAt w B (ad.add (i * 4)) k x m A1 n1 c1 l
theorem Acts.below {w w' : World} {B : Nat} {A : Option Addr} {n : Nat} (h : Acts w B A n) (hb : Below B w w') : Acts w' B A n := by
  intro i hi
  obtain ⟨ad, k, x, m, A1, n1, c1, l, h1, h2⟩ := h i hi
  exact ⟨ad, k, x, m, A1, n1, c1, l, h1, h2.below hb⟩

theorem and3 (k : Nat) (h : k ≤ 255) : bits BinOp.and IntKind.u8 (k : Int) 3 = 0 ∨ bits BinOp.and IntKind.u8 (k : Int) 3 = 1 ∨ bits BinOp.and IntKind.u8 (k : Int) 3 = 2 ∨ bits BinOp.and IntKind.u8 (k : Int) 3 = 3 := by
  have e : bits BinOp.and IntKind.u8 (k : Int) 3 = ((k &&& 3 : Nat) : Int) := u8_and_nat k 3 (by omega) (by omega)
  rw [e]
  have := Nat.and_two_pow_sub_one_eq_mod k 2
  simp at this
  rw [this]
  omega
theorem fErr_keep (e x : Int) (h : e ≠ 0) : fErr e x = e := if_neg h
theorem take_err (l : List UInt8) (e : Int) (n : Nat) (h : e ≠ 0) : takeL l e n = [] ∧ takeR l e n = l ∧ takeE l e n = e := by
  have : (if l.length < n then fErr e 10 else e) = e := by split <;> simp [fErr_keep e 10 h]
  refine ⟨?_, ?_, ?_⟩
  · unfold takeL; rw [this, if_neg h]
  · unfold takeR; rw [this, if_neg h]
  · unfold takeE; exact this
theorem var_err (l : List UInt8) (e : Int) (h : e ≠ 0) : varX l e = 0 ∧ varR l e = l ∧ varE l e = e := by simp [varX, varR, varE, h]

theorem errs_num (w : World) (g : Nat) (l : List UInt8) (e m : Int) (h : IsR w g l e) :
    Calls Try.prog 35 #[.pointer (some ⟨g, 0, none⟩), .int .i64 m] w fun r w' => ∃ (y : Nat) (l1 : List UInt8) (e1 : Int), r = .returned (.int .u64 (y : Int)) ∧ IsR w' g l1 e1 ∧ At g w w' ∧ l1.length ≤ l.length ∧ (e ≠ 0 → y = 0 ∧ l1 = l ∧ e1 = e) := by
  by_cases hm : 1 ≤ m ∧ m ≤ 8
  · refine (rnum_i w g l e m h hm.1 hm.2).mono ?_
    rintro r w' ⟨x, rfl, hx, _, hR, hA⟩
    refine ⟨x, _, _, rfl, hR, hA, takeR_le _ _ _, fun he => ?_⟩
    obtain ⟨t1, t2, t3⟩ := take_err l e m.toNat he
    exact ⟨by rw [hx.out, t1]; rfl, t2, t3⟩
  · refine (rnum_no w g l e m hm h).mono ?_
    rintro r w' ⟨rfl, hR, hA⟩
    exact ⟨0, _, _, rfl, hR, hA, Nat.le_refl _, fun he => ⟨rfl, rfl, fErr_keep _ _ he⟩⟩
theorem errs_var (w : World) (g : Nat) (l : List UInt8) (e : Int) (h : IsR w g l e) (hl : l.length ≤ 140737488355328) :
    Calls Try.prog 34 #[.pointer (some ⟨g, 0, none⟩)] w fun r w' => ∃ (y : Nat) (l1 : List UInt8) (e1 : Int), r = .returned (.int .u64 (y : Int)) ∧ IsR w' g l1 e1 ∧ At g w w' ∧ l1.length ≤ l.length ∧ (e ≠ 0 → y = 0 ∧ l1 = l ∧ e1 = e) := by
  refine (rvar_any w g l e h hl).mono ?_
  rintro r w' ⟨x, rfl, hx, _, hR, hA⟩
  refine ⟨x, _, _, rfl, hR, hA, varR_le _ _, fun he => ?_⟩
  obtain ⟨t1, t2, t3⟩ := var_err l e he
  exact ⟨by rw [hx.out, t1], t2, t3⟩
theorem errs_raw (w : World) (g : Nat) (l : List UInt8) (e m : Int) (h : IsR w g l e) (hl : l.length ≤ 140737488355328) :
    Calls Try.prog 40 #[.pointer (some ⟨g, 0, none⟩), .int .i64 m] w fun r w' => ∃ (A : Option Addr) (n c : Nat) (l1 : List UInt8) (e1 : Int), r = .returned (.slice A n c) ∧ IsR w' g l1 e1 ∧ At g w w' ∧ l1.length ≤ l.length ∧ (e ≠ 0 → n = 0 ∧ l1 = l ∧ e1 = e) := by
  by_cases hm : m < 0
  · refine (rraw_neg w g l e m hm h).mono ?_
    rintro r w' ⟨rfl, hR, hA⟩
    exact ⟨none, 0, 0, _, _, rfl, hR, hA, Nat.le_refl _, fun he => ⟨rfl, rfl, fErr_keep _ _ he⟩⟩
  · refine (rraw_i w g l e m (by omega) h hl).mono ?_
    rintro r w' ⟨A, n, c, rfl, hown, hR, hA⟩
    refine ⟨A, n, c, _, _, rfl, hR, hA, takeR_le _ _ _, fun he => ?_⟩
    obtain ⟨t1, t2, t3⟩ := take_err l e m.toNat he
    have := hown.1
    rw [t1] at this
    exact ⟨by simpa [bv] using this.symm, t2, t3⟩
theorem rbR_le (l : List UInt8) (e m : Int) : (rbR l e m).length ≤ l.length := by
  unfold rbR
  split
  · exact Nat.le_trans (takeR_le _ _ _) (varR_le _ _)
  · exact varR_le _ _
theorem errs_bytes (w : World) (g : Nat) (l : List UInt8) (e m : Int) (h : IsR w g l e) (hl : l.length ≤ 140737488355328) (hm : m ≤ 9223372036854775807) :
    Calls Try.prog 36 #[.pointer (some ⟨g, 0, none⟩), .int .i64 m] w fun r w' => ∃ (A : Option Addr) (n c : Nat) (l1 : List UInt8) (e1 : Int), r = .returned (.slice A n c) ∧ IsR w' g l1 e1 ∧ At g w w' ∧ l1.length ≤ l.length ∧ (e ≠ 0 → n = 0 ∧ l1 = l ∧ e1 = e) := by
  refine (rbytes_any w g l e m h hl hm).mono ?_
  rintro r w' ⟨A, n, c, rfl, hown, hR, hA⟩
  refine ⟨A, n, c, _, _, rfl, hR, hA, rbR_le _ _ _, fun he => ?_⟩
  obtain ⟨t1, t2, t3⟩ := var_err l e he
  have hno : ¬ rbOk l e m := fun hh => by rw [rbOk, t3] at hh; exact he hh.1
  have := hown.1
  rw [rbL, if_neg hno] at this
  exact ⟨by simpa [bv] using this.symm, by rw [rbR, if_neg hno, t2], by rw [rbE, t3, if_pos he]⟩

set_option maxRecDepth 100000 in
set_option maxHeartbeats 4000000 in
theorem octErrs_law (w : World) (A : Option Addr) (n c : Nat) (l : List UInt8) (h : Sl w w.heap.size A n c l) (A1 : Option Addr) (n1 c1 : Nat) (hs : Acts w w.heap.size A1 n1) (hn1 : n1 ≤ c1) (hn1' : c1 ≤ 9223372036854775807) :
    Calls Try.prog 12 #[.slice A n c, .slice A1 n1 c1] w fun e w' => e = .returned (.bool true) ∧ Below w.heap.size w w' := by
  by_cases hn : 300 < n
  · have hnb : decide (300 < (n : Int)) = true := decide_eq_true (by omega)
    go_enter Try.func12, Try.ntmps12
    go_wp2_with (first | (go_at_call 23; refine (awake1 _).mono ?_; rintro e w1 ⟨rfl, hb1⟩))
    go_ret
    exact ⟨rfl, hb1⟩
  have hnb : decide (300 < (n : Int)) = false := decide_eq_false (by omega)
  have hn' : n ≤ 300 := by omega
  clear hn
  have HL := Lib.hid h.len
  go_enter Try.func12, Try.ntmps12
  go_wp2_with (first | (go_at_call 23; refine (awake1 _).mono ?_; rintro e w1 ⟨rfl, hb1⟩))
  refine (new_r _ _ _ _ _ _ (h.belowX hb1) (by omega)).mono ?_
  rintro e w2 ⟨g, rfl, hR2, hg, hb2'⟩
  have hb2 := hb1.trans (hb2'.mono hb1.size)
  have hgw : w.heap.size ≤ g := Nat.le_trans hb1.size hg
  have HS := Lib.hid hs
  clear hs
  go_wp2_with fail
  go_loopw [7, 8] (fun fv i wr => ∃ (k : Nat) (l' : List UInt8) (e' : Int), i = .int .i64 (k : Int) ∧ k ≤ n1 ∧ fv = .int .i64 e' ∧ IsR wr g l' e' ∧ l'.length ≤ 300 ∧ Below w.heap.size w wr) (fun _ i _ => n1 - (intOf i).toNat)
  case atStart => exact ⟨0, l, 0, rfl, Nat.zero_le _, rfl, hR2, by rw [HL.out]; exact hn', hb2⟩
  case round =>
    obtain ⟨k, l', e', rfl, hk, rfl, hR, hl', hbw⟩ := hrel
    by_cases hlt : k < n1 ∧ k < 40
    · obtain ⟨hlt1, hlt2⟩ := hlt
      obtain ⟨ad, kk, x, m, A2, n2, c2, l2, rfl, hact⟩ := HS.out.below hbw k hlt1
      obtain ⟨a1, a2, a3, a4, a5, a6, a7, a8, a9, a10, a11, a12⟩ := hact
      have b5 : wr.cell? ⟨(ad.add (k * 4)).block, (ad.add (k * 4)).off + 1, none⟩ = some (.int .u64 x) := a5
      have b8 : wr.cell? ⟨(ad.add (k * 4)).block, (ad.add (k * 4)).off + 2, none⟩ = some (.int .i64 m) := a8
      have b11 : wr.cell? ⟨(ad.add (k * 4)).block, (ad.add (k * 4)).off + 3, none⟩ = some (.slice A2 n2 c2) := a11
      -- KINDS
      obtain ⟨kn, rfl⟩ := Int.eq_ofNat_of_zero_le a3
      have hq := and3 kn (by omega)
      have hR2 := hR.below ((Below.refl wr.heap.size wr).alloc (Nat.le_refl _) (.cells #[.int .u8 (kn : Int), .int .u64 x, .int .i64 m, .slice A2 n2 c2] 53)) hR.lt
      have hbz := hbw.size
      have hblk := heap_alloc_new wr (.cells #[.int .u8 (kn : Int), .int .u64 x, .int .i64 m, .slice A2 n2 c2] 53)
      have hbw2 := hbw.alloc hbz (.cells #[.int .u8 (kn : Int), .int .u64 x, .int .i64 m, .slice A2 n2 c2] 53)
      have HLT1 := Lib.hid hlt1
      have HLT2 := Lib.hid hlt2
      by_cases he : e' = 0
      · subst he
        rcases hq with hq | hq | hq | hq
        · go_wp2_with (first | (go_at_call 39; refine (left_any _ _ _ _ hR2).mono ?_; rintro r w' ⟨rfl, rfl⟩))
          refine (errs_num _ _ _ _ m hR2).mono ?_
          rintro r w3 ⟨y, l1, e1, rfl, hR3, hA3, hle3, hz3⟩
          have hbw3 := hbw2.trans (hA3.below hgw hbw2.size)
          clear hz3
          clear hR2 hblk hbw2 hR hq
          go_wp2_with (first | (go_at_call 38; refine (err_any _ _ _ _ hR3).mono ?_; rintro r w' ⟨rfl, rfl⟩) | (go_at_call 39; refine (left_any _ _ _ _ hR3).mono ?_; rintro r w' ⟨rfl, rfl⟩))
          go_roundw
          case rel => exact ⟨k + 1, _, _, by go_num, by omega, rfl, hR3, Nat.le_trans hle3 hl', hbw3⟩
          case measure => simp [intOf]; have := HLT1.out; omega
        · go_wp2_with (first | (go_at_call 39; refine (left_any _ _ _ _ hR2).mono ?_; rintro r w' ⟨rfl, rfl⟩))
          refine (errs_var _ _ _ _ hR2 (by omega)).mono ?_
          rintro r w3 ⟨y, l1, e1, rfl, hR3, hA3, hle3, hz3⟩
          have hbw3 := hbw2.trans (hA3.below hgw hbw2.size)
          clear hz3
          clear hR2 hblk hbw2 hR hq
          go_wp2_with (first | (go_at_call 38; refine (err_any _ _ _ _ hR3).mono ?_; rintro r w' ⟨rfl, rfl⟩) | (go_at_call 39; refine (left_any _ _ _ _ hR3).mono ?_; rintro r w' ⟨rfl, rfl⟩))
          go_roundw
          case rel => exact ⟨k + 1, _, _, by go_num, by omega, rfl, hR3, Nat.le_trans hle3 hl', hbw3⟩
          case measure => simp [intOf]; have := HLT1.out; omega
        · go_wp2_with (first | (go_at_call 39; refine (left_any _ _ _ _ hR2).mono ?_; rintro r w' ⟨rfl, rfl⟩))
          refine (errs_bytes _ _ _ _ m hR2 (by omega) (by omega)).mono ?_
          rintro r w3 ⟨A3, n3, c3, l1, e1, rfl, hR3, hA3, hle3, hz3⟩
          have hbw3 := hbw2.trans (hA3.below hgw hbw2.size)
          clear hz3
          clear hR2 hblk hbw2 hR hq
          go_wp2_with (first | (go_at_call 38; refine (err_any _ _ _ _ hR3).mono ?_; rintro r w' ⟨rfl, rfl⟩) | (go_at_call 39; refine (left_any _ _ _ _ hR3).mono ?_; rintro r w' ⟨rfl, rfl⟩))
          go_roundw
          case rel => exact ⟨k + 1, _, _, by go_num, by omega, rfl, hR3, Nat.le_trans hle3 hl', hbw3⟩
          case measure => simp [intOf]; have := HLT1.out; omega
        · go_wp2_with (first | (go_at_call 39; refine (left_any _ _ _ _ hR2).mono ?_; rintro r w' ⟨rfl, rfl⟩))
          refine (errs_raw _ _ _ _ m hR2 (by omega)).mono ?_
          rintro r w3 ⟨A3, n3, c3, l1, e1, rfl, hR3, hA3, hle3, hz3⟩
          have hbw3 := hbw2.trans (hA3.below hgw hbw2.size)
          clear hz3
          clear hR2 hblk hbw2 hR hq
          go_wp2_with (first | (go_at_call 38; refine (err_any _ _ _ _ hR3).mono ?_; rintro r w' ⟨rfl, rfl⟩) | (go_at_call 39; refine (left_any _ _ _ _ hR3).mono ?_; rintro r w' ⟨rfl, rfl⟩))
          go_roundw
          case rel => exact ⟨k + 1, _, _, by go_num, by omega, rfl, hR3, Nat.le_trans hle3 hl', hbw3⟩
          case measure => simp [intOf]; have := HLT1.out; omega
      · have heb : (e' != 0) = true := by simpa using he
        have HE := Lib.hid he
        clear he
        rcases hq with hq | hq | hq | hq
        · go_wp2_with (first | (go_at_call 39; refine (left_any _ _ _ _ hR2).mono ?_; rintro r w' ⟨rfl, rfl⟩))
          refine (errs_num _ _ _ _ m hR2).mono ?_
          rintro r w3 ⟨y, l1, e1, rfl, hR3, hA3, hle3, hz3⟩
          have hbw3 := hbw2.trans (hA3.below hgw hbw2.size)
          obtain ⟨hz1, hz2, hz3e⟩ := hz3 HE.out
          subst hz1 hz2 hz3e
          clear hR2 hblk hbw2 hR hq
          go_wp2_with (first | (go_at_call 38; refine (err_any _ _ _ _ hR3).mono ?_; rintro r w' ⟨rfl, rfl⟩) | (go_at_call 39; refine (left_any _ _ _ _ hR3).mono ?_; rintro r w' ⟨rfl, rfl⟩))
          go_roundw
          case rel => exact ⟨k + 1, _, _, by go_num, by omega, rfl, hR3, Nat.le_trans hle3 hl', hbw3⟩
          case measure => simp [intOf]; have := HLT1.out; omega
        · go_wp2_with (first | (go_at_call 39; refine (left_any _ _ _ _ hR2).mono ?_; rintro r w' ⟨rfl, rfl⟩))
          refine (errs_var _ _ _ _ hR2 (by omega)).mono ?_
          rintro r w3 ⟨y, l1, e1, rfl, hR3, hA3, hle3, hz3⟩
          have hbw3 := hbw2.trans (hA3.below hgw hbw2.size)
          obtain ⟨hz1, hz2, hz3e⟩ := hz3 HE.out
          subst hz1 hz2 hz3e
          clear hR2 hblk hbw2 hR hq
          go_wp2_with (first | (go_at_call 38; refine (err_any _ _ _ _ hR3).mono ?_; rintro r w' ⟨rfl, rfl⟩) | (go_at_call 39; refine (left_any _ _ _ _ hR3).mono ?_; rintro r w' ⟨rfl, rfl⟩))
          go_roundw
          case rel => exact ⟨k + 1, _, _, by go_num, by omega, rfl, hR3, Nat.le_trans hle3 hl', hbw3⟩
          case measure => simp [intOf]; have := HLT1.out; omega
        · go_wp2_with (first | (go_at_call 39; refine (left_any _ _ _ _ hR2).mono ?_; rintro r w' ⟨rfl, rfl⟩))
          refine (errs_bytes _ _ _ _ m hR2 (by omega) (by omega)).mono ?_
          rintro r w3 ⟨A3, n3, c3, l1, e1, rfl, hR3, hA3, hle3, hz3⟩
          have hbw3 := hbw2.trans (hA3.below hgw hbw2.size)
          obtain ⟨hz1, hz2, hz3e⟩ := hz3 HE.out
          subst hz1 hz2 hz3e
          clear hR2 hblk hbw2 hR hq
          go_wp2_with (first | (go_at_call 38; refine (err_any _ _ _ _ hR3).mono ?_; rintro r w' ⟨rfl, rfl⟩) | (go_at_call 39; refine (left_any _ _ _ _ hR3).mono ?_; rintro r w' ⟨rfl, rfl⟩))
          go_roundw
          case rel => exact ⟨k + 1, _, _, by go_num, by omega, rfl, hR3, Nat.le_trans hle3 hl', hbw3⟩
          case measure => simp [intOf]; have := HLT1.out; omega
        · go_wp2_with (first | (go_at_call 39; refine (left_any _ _ _ _ hR2).mono ?_; rintro r w' ⟨rfl, rfl⟩))
          refine (errs_raw _ _ _ _ m hR2 (by omega)).mono ?_
          rintro r w3 ⟨A3, n3, c3, l1, e1, rfl, hR3, hA3, hle3, hz3⟩
          have hbw3 := hbw2.trans (hA3.below hgw hbw2.size)
          obtain ⟨hz1, hz2, hz3e⟩ := hz3 HE.out
          subst hz1 hz2 hz3e
          clear hR2 hblk hbw2 hR hq
          go_wp2_with (first | (go_at_call 38; refine (err_any _ _ _ _ hR3).mono ?_; rintro r w' ⟨rfl, rfl⟩) | (go_at_call 39; refine (left_any _ _ _ _ hR3).mono ?_; rintro r w' ⟨rfl, rfl⟩))
          go_roundw
          case rel => exact ⟨k + 1, _, _, by go_num, by omega, rfl, hR3, Nat.le_trans hle3 hl', hbw3⟩
          case measure => simp [intOf]; have := HLT1.out; omega
    · by_cases hk1 : k < n1
      · have hk40 : ¬ k < 40 := fun hh => hlt ⟨hk1, hh⟩
        clear hlt
        go_wp2_with fail
        go_ret
        exact ⟨rfl, hbw⟩
      · clear hlt
        go_wp2_with fail
        go_ret
        exact ⟨rfl, hbw⟩

end Go.Proofs.Ythnehmfpadahiaa
