/- What a page tells is put as the same page: the plain law; refit. -/
import Derived.Test.YtpipgeboddaipaaMetaX
import Derived.Test.YtpipgeboddaipaaMetaS
import Derived.Laws.BitsAllLaws
namespace Go.Proofs.Ytpipgeboddaipaa
open Go.RowKit
set_option linter.unusedVariables false
set_option linter.unusedSimpArgs false

theorem num_be (l : List UInt8) (k : Nat) (h : l.length = k) : numB (be l) k = l := by
  refine be_inj _ _ (by rw [numB_length, h]) ?_
  rw [be_num_lt]
  rw [← h]
  exact be_lt l
theorem num_at (l : List UInt8) (p s : Nat) (h : p + s ≤ l.length) : numB (numAt l p s) s = (l.drop p).take s := num_be _ _ (by simp; omega)
theorem drop_split (l : List UInt8) (p s q : Nat) (h : p + s = q) : (l.drop p).take s ++ l.drop q = l.drop p := by
  rw [← h, ← List.drop_drop, List.take_append_drop]
theorem mPut_of_get {l : List UInt8} {t e m f : Nat} (h : mGet l = (some (t, e, m, f), 0)) : mPut t e m f l.length = l := by
  obtain ⟨a1, a2, a3, a4, a5, a6, a7, a8⟩ := mGet_some h
  obtain ⟨rfl, rfl, rfl, rfl⟩ : t = numAt l 8 8 ∧ e = numAt l 16 4 ∧ m = numAt l 20 4 ∧ f = numAt l 24 4 := by
    simp only [Prod.mk.injEq] at a7
    exact a7
  have hsum : msum (numAt l 8 8) (numAt l 16 4) (numAt l 20 4) (numAt l 24 4) l.length = l.take 28 := by
    have e1 : l.take 28 = l.take 4 ++ ((l.drop 4).take 4 ++ ((l.drop 8).take 8 ++ ((l.drop 16).take 4 ++ ((l.drop 20).take 4 ++ (l.drop 24).take 4)))) := by
      have k : ∀ (a b c : Nat) (x : List UInt8), a + b = c → x.take c = x.take a ++ (x.drop a).take b := fun a b c x hh => by rw [← hh, List.take_add]
      rw [k 4 24 28 l rfl, k 4 20 24 (l.drop 4) rfl, List.drop_drop, k 8 12 20 (l.drop (4 + 4)) rfl, List.drop_drop, k 4 8 12 (l.drop (4 + 4 + 8)) rfl, List.drop_drop, k 4 4 8 (l.drop (4 + 4 + 8 + 4)) rfl, List.drop_drop]
    rw [e1, a1, ← num_at l 4 4 (by omega), ← num_at l 8 8 (by omega), ← num_at l 16 4 (by omega), ← num_at l 20 4 (by omega), ← num_at l 24 4 (by omega), a2]
    simp [msum, mhead, pgs]
  unfold mPut
  rw [hsum, ← a4, num_at l 28 4 (by omega), ← a3, List.append_assoc, drop_split l 28 4 32 rfl, List.take_append_drop]

theorem u8_of (v : Int) (h0 : 0 ≤ v) (h : v < 256) : ∃ b : UInt8, v = (b.toNat : Int) :=
  ⟨UInt8.ofNat v.toNat, by simp [UInt8.toNat_ofNat']; omega⟩
theorem MB.of_own' {w : World} {base : Nat} {A : Option Addr} {n c : Nat} {l : List UInt8} (h : w.ownsRow base 5 1 (.slice A n c) n (bv l)) (hn : 0 < n) :
    ∃ g, A = some ⟨g, 0, none⟩ ∧ MB w g l ∧ n ≤ c ∧ base ≤ g := by
  obtain ⟨g, c', hv, h1, h2, h3⟩ := MB.of_own h hn
  injection hv with ha _ hc
  subst hc
  exact ⟨g, ha, h1, h2, h3⟩

set_option maxRecDepth 20000 in
set_option maxHeartbeats 2000000 in
theorem refit_any (w : World) (B : Nat) (A : Option Addr) (n c : Nat) (l : List UInt8) (h : Sl w B A n c l) (hn : 32 ≤ n) (hn' : n ≤ 1099511627776) :
    Calls Try.prog 18 #[.slice A n c] w fun r w' => ∃ A' c' l', r = .returned (.slice A' n c') ∧ Sl w' w'.heap.size A' n c' l' ∧ Below w.heap.size w w' := by
  obtain ⟨ii, hi0, hz0, hz1, hz2⟩ := info_parts info_u8
  obtain ⟨A28, hcut28', hsl28⟩ := cut_h (P := Try.prog) 33 5 .i64 Try.underlying33 hi0 hz1 A n c 28 (by have := h.cap; omega)
  have hcut28 : ∀ W : World, (Instr.slice 33 (.slice A n c) none (some (.int .i64 28)) none).run Try.prog W = .ok (.slice A28 28 c) W := hcut28'
  have hlen := Lib.hid h.len
  clear hcut28'
  go_enter Try.func18, Try.ntmps18
  go_wp2_with (first | (at_builtin; refine wpList_append_any _ rfl _ _ _ rfl w.heap.size 5 ii _ 1 1 Try.underlying33 hi0 hz0 hz1 hz2 rfl (by omega) (.slice none 0 0) 0 [] rfl (World.ownsRow_nil _ _ _ _) _ A n c _ rfl h.reads (bv_one _) (by unfold maxLen; omega) (by omega) (Nat.le_refl _) ?_))
  intro v1 w1 hown1 hg1 hat1
  obtain ⟨A', c', rfl⟩ := own_slice hown1
  have hb1 : Below w.heap.size w w1 := (Below.refl _ _).grown hg1 (by simp) (fun k hk => by simp [Value.ownBlock] at hk)
  have hown1' : w1.ownsRow w.heap.size 5 1 (.slice A' n c') n (bv l) := by simpa using hown1
  obtain ⟨g, rfl, hM1, hc1, hgw⟩ := MB.of_own' hown1' (by omega)
  have hs28 := hsl28 w1 _ _ (by omega) (h.lt'.below hb1)
  clear hown1 hown1' hg1 hsl28
  go_wp2_with fail
  refine (crcof_any _ w1.heap.size _ A28 28 c (l.take 28) (blk_cell (heap_alloc_new w1 (.cells #[.slice A28 28 c] 33)) 0) (hs28.lt'.below ((Below.refl _ _).alloc (Nat.le_refl _) _)) (by omega)).mono ?_
  rintro r w2 ⟨rfl, hb2'⟩
  have hb12 : Below w1.heap.size w1 w2 := ((Below.refl _ _).alloc (Nat.le_refl _) _).trans (hb2'.mono (by simp))
  have hM2 := hM1.below hb12 hM1.1
  have hb2 := hb1.trans (hb12.mono hb1.size)
  have hcl := crcOf_lt (l.take 28)
  generalize crcOf (l.take 28) = X at *
  clear hb2' hb12 hM1 hs28 hb1 hcut28
  have hll := hlen.out
  obtain ⟨x28, k28, f28⟩ : ∃ v, w2.cell? ⟨g, 28, none⟩ = some v ∧ w2.frozen? ⟨g, 28, none⟩ = false := ⟨_, hM2.2 28 _ (List.getElem?_eq_getElem (show 28 < l.length by omega))⟩
  obtain ⟨x29, k29, f29⟩ : ∃ v, w2.cell? ⟨g, 29, none⟩ = some v ∧ w2.frozen? ⟨g, 29, none⟩ = false := ⟨_, hM2.2 29 _ (List.getElem?_eq_getElem (show 29 < l.length by omega))⟩
  obtain ⟨x30, k30, f30⟩ : ∃ v, w2.cell? ⟨g, 30, none⟩ = some v ∧ w2.frozen? ⟨g, 30, none⟩ = false := ⟨_, hM2.2 30 _ (List.getElem?_eq_getElem (show 30 < l.length by omega))⟩
  obtain ⟨x31, k31, f31⟩ : ∃ v, w2.cell? ⟨g, 31, none⟩ = some v ∧ w2.frozen? ⟨g, 31, none⟩ = false := ⟨_, hM2.2 31 _ (List.getElem?_eq_getElem (show 31 < l.length by omega))⟩
  have HLL := Lib.hid hll
  have b28 : decide ((28 : Int) < (n : Int)) = true := decide_eq_true (by omega)
  have b29 : decide ((29 : Int) < (n : Int)) = true := decide_eq_true (by omega)
  have b30 : decide ((30 : Int) < (n : Int)) = true := decide_eq_true (by omega)
  have b31 : decide ((31 : Int) < (n : Int)) = true := decide_eq_true (by omega)
  have hM : ∃ l' : List UInt8, MB ((((w2.setCell ⟨g, 28, none⟩ (.int .u8 ((X : Int) / 16777216))).setCell ⟨g, 29, none⟩ (.int .u8 ((X : Int) / 65536 % 256))).setCell ⟨g, 30, none⟩ (.int .u8 ((X : Int) / 256 % 256))).setCell ⟨g, 31, none⟩ (.int .u8 ((X : Int) % 256))) g l' ∧ l'.length = n := by
    obtain ⟨u1, e1⟩ := u8_of ((X : Int) / 16777216) (by omega) (by omega)
    obtain ⟨u2, e2⟩ := u8_of ((X : Int) / 65536 % 256) (by omega) (by omega)
    obtain ⟨u3, e3⟩ := u8_of ((X : Int) / 256 % 256) (by omega) (by omega)
    obtain ⟨u4, e4⟩ := u8_of ((X : Int) % 256) (by omega) (by omega)
    rw [e1, e2, e3, e4]
    exact ⟨_, (((hM2.set_ 28 u1 (by omega)).set_ 29 u2 (by simp; omega)).set_ 30 u3 (by simp; omega)).set_ 31 u4 (by simp; omega), by simp; exact hll⟩
  have hbz := (((hb2.setCell (p := ⟨g, 28, none⟩) hgw (.int .u8 ((X : Int) / 16777216))).setCell (p := ⟨g, 29, none⟩) hgw (.int .u8 ((X : Int) / 65536 % 256))).setCell (p := ⟨g, 30, none⟩) hgw (.int .u8 ((X : Int) / 256 % 256))).setCell (p := ⟨g, 31, none⟩) hgw (.int .u8 ((X : Int) % 256))
  obtain ⟨l', hM', hl'⟩ := hM
  have hsl : Sl _ _ (some ⟨g, 0, none⟩) n c' l' := hM'.sl hl' hc1
  have HSL := Lib.hid hsl
  have HBZ := Lib.hid hbz
  clear hll hsl hM' hl' hbz hM2 hb2 h hat1
  go_wp2_with fail
  go_ret
  exact ⟨_, _, l', rfl, HSL.out, HBZ.out⟩

end Go.Proofs.Ytpipgeboddaipaa
