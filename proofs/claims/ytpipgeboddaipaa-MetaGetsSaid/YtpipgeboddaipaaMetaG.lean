/- Package meta: Get. -/
import Derived.Test.YtpipgeboddaipaaMetaN
import Derived.Deep.QuietTactic
import Derived.BigQuiet
import Derived.Deep.RegionHeld3
namespace Go.Proofs.Ytpipgeboddaipaa
open Go.RowKit
set_option linter.unusedVariables false
set_option linter.unusedSimpArgs false

theorem blk_at {w w1 : World} {g k : Nat} {o : Obj} (h : w.heap[k]? = some o) (hA : At g w w1) (hk : k ≠ g) : w1.heap[k]? = some o :=
  (hA.block k (blk_lt h) (fun e => by injection e with e; exact hk e)).trans h
/-- s[:m] -/
theorem cut_h {P : Program} (t e : TypeId) (kh : IntKind) {i : TypeInfo} (ht : P.underlying t = some (.slice e)) (hi : P.info? e = some i) (hsz : i.size = 1) (A : Option Addr) (n c m : Nat) (hm : m ≤ c) :
    ∃ A' : Option Addr, (∀ W : World, (Instr.slice t (.slice A n c) none (some (.int kh (m : Int))) none).run P W = .ok (.slice A' m c) W) ∧
      ∀ (w : World) (B : Nat) (l : List UInt8), m ≤ n → Sl w B A n c l → Sl w B A' m c (l.take m) := by
  refine ⟨if c = 0 then A else A.map (·.add (0 * 1)), fun W => ?_, fun w B l hmn h => ⟨⟨?_, fun hn => ?_⟩, by rw [List.length_take, h.len]; omega, hm, ?_⟩⟩
  · have hel : P.elem t = e := by simp [Program.elem, ht]
    have hu : P.underlying t = some (.slice (P.elem t)) := by rw [hel]; exact ht
    rw [run_slice_h W t A n c hu kh (m : Int) (Int.natCast_nonneg _) (by omega), hel]
    simp [sizeOf, typeInfo, hi, hsz, sliced, Result.andThen]
  · simp [bv, h.len]; omega
  · obtain ⟨ad, rfl, hb, hc⟩ := h.reads.2 (by omega)
    have := h.cap
    rw [if_neg (by omega)]
    refine ⟨ad.add 0, rfl, by rw [block_of_add]; exact hb, fun j u hu => ?_⟩
    rw [add_of_add, Nat.zero_add]
    refine hc j u ?_
    simp only [bv, List.map_take] at hu
    rw [List.getElem?_take] at hu
    split at hu
    · exact hu
    · cases hu
  · intro hA
    have := h.nil
    split at hA
    · omega
    · cases A with
      | none => have := this rfl; omega
      | some a => cases hA

theorem bytes_eq (w : World) (B D : Nat) (A : Option Addr) (n c : Nat) (l : List UInt8) (A' : Option Addr) (n' c' : Nat) (l' : List UInt8) (h : Sl w B A n c l) (h' : Sl w D A' n' c' l') :
    Calls Try.prog 34 #[.slice A n c, .slice A' n' c'] w fun e w' => e = .returned (.bool (decide (l = l'))) ∧ w = w' := by
  have q1 := string_of_sl (P := Try.prog) Try.underlying33 Try.underlying5 Try.underlying9 h
  have q2 := string_of_sl (P := Try.prog) Try.underlying33 Try.underlying5 Try.underlying9 h'
  go_enter Try.func34, Try.ntmps34
  go_wp2
  go_ret
  refine ⟨?_, rfl⟩
  simp
  by_cases e : l = l' <;> simp [e]
theorem set4 {w : World} {g : Nat} {t : TypeId} {a b c d : Value} (h : w.heap[g]? = some (.cells #[a, b, c, d] t (0, 0))) (a' b' c' d' : Value) :
    ((((w.setCell ⟨g, 0, none⟩ a').setCell ⟨g, 1, none⟩ b').setCell ⟨g, 2, none⟩ c').setCell ⟨g, 3, none⟩ d').heap[g]? = some (.cells #[a', b', c', d'] t (0, 0)) := by
  have h1 := blk_set (blk_set (blk_set (blk_set h 0 a') 1 b') 2 c') 3 d'
  simpa using h1
theorem cell4 {w : World} {g : Nat} {t : TypeId} {a b c d : Value} (h : w.heap[g]? = some (.cells #[a, b, c, d] t (0, 0))) :
    (w.cell? ⟨g, 0, none⟩ = some a ∧ w.cell? ⟨g, 1, none⟩ = some b ∧ w.cell? ⟨g, 2, none⟩ = some c ∧ w.cell? ⟨g, 3, none⟩ = some d) ∧ w.frozen? ⟨g, 0, none⟩ = false ∧ w.frozen? ⟨g, 1, none⟩ = false ∧ w.frozen? ⟨g, 2, none⟩ = false ∧ w.frozen? ⟨g, 3, none⟩ = false :=
  ⟨⟨blk_cell h 0, blk_cell h 1, blk_cell h 2, blk_cell h 3⟩, blk_frozen h 0, blk_frozen h 1, blk_frozen h 2, blk_frozen h 3⟩
theorem below4 {B : Nat} {W w : World} {g : Nat} (h : Below B W w) (hg : B ≤ g) (a b c d : Value) : Below B W ((((w.setCell ⟨g, 0, none⟩ a).setCell ⟨g, 1, none⟩ b).setCell ⟨g, 2, none⟩ c).setCell ⟨g, 3, none⟩ d) :=
  (((h.setCell (p := ⟨g, 0, none⟩) hg a).setCell (p := ⟨g, 1, none⟩) hg b).setCell (p := ⟨g, 2, none⟩) hg c).setCell (p := ⟨g, 3, none⟩) hg d
theorem rraw_m (w : World) (g : Nat) (l : List UInt8) (e : Int) (S : Int) (hS : 0 ≤ S) (h : IsR w g l e) (hl : l.length ≤ 140737488355328) :
    Calls Try.prog 32 #[.pointer (some ⟨g, 0, none⟩), .int .i64 S] w fun r w' => ∃ A n c, r = .returned (.slice A n c) ∧ w'.ownsRow w.heap.size 5 1 (.slice A n c) n (bv (takeL l e S.toNat)) ∧ IsR w' g (takeR l e S.toNat) (takeE l e S.toNat) ∧ At g w w' := by
  obtain ⟨s, rfl⟩ := Int.eq_ofNat_of_zero_le hS
  exact rraw_any w g l e s h hl
theorem take_dd (l : List UInt8) (a n b : Nat) (hb : a + n = b) (h : b ≤ l.length) : takeL (l.drop a) 0 n = (l.drop a).take n ∧ takeR (l.drop a) 0 n = l.drop b ∧ takeE (l.drop a) 0 n = 0 := by
  obtain ⟨h1, h2, h3⟩ := take_nn (l.drop a) n (by rw [List.length_drop]; omega)
  exact ⟨h1, by rw [h2, List.drop_drop, hb], h3⟩

set_option maxRecDepth 20000 in
set_option maxHeartbeats 2000000 in
theorem mget_in (w : World) (B : Nat) (A : Option Addr) (n c : Nat) (l : List UInt8) (h : Sl w B A n c l) (hl1 : 512 ≤ n) (hl2 : n ≤ 4096) :
    Calls Try.prog 17 #[.slice A n c] w fun r w' => r = .returned (.tuple #[metaV (mGet l).1, .int .i64 (mGet l).2]) ∧ Below w.heap.size w w' := by
  have hlen := h.len
  have HLEN := Lib.hid hlen
  have d1 : decide ((n : Int) < 512) = false := decide_eq_false (by omega)
  have d2 : decide (4096 < (n : Int)) = false := decide_eq_false (by omega)
  have hll : 32 ≤ l.length := by omega
  have hlu : l.length ≤ 4096 := by omega
  have hb0 : Below w.heap.size w (w.alloc (.cells #[.int .u64 0, .int .u32 0, .int .u32 0, .int .u32 0] 29)) := (Below.refl _ _).alloc (Nat.le_refl _) _
  have hr0 := heap_alloc_new w (.cells #[.int .u64 0, .int .u32 0, .int .u32 0, .int .u32 0] 29)
  have hs0 := h.belowX hb0
  have HR0 := Lib.hid hr0
  clear hr0 hlen
  go_enter Try.func17, Try.ntmps17
  go_wp2_with fail
  refine (new_r _ _ _ _ _ _ hs0 (by omega)).mono ?_
  rintro r w1 ⟨g, rfl, hR1, hg1, hb1'⟩
  have hb1 := hb0.trans (hb1'.mono hb0.size)
  have hr1 := blk_below HR0.out hb1' (blk_lt HR0.out)
  have hgw : w.heap.size < g := by have := blk_lt HR0.out; omega
  clear hb1' HR0 hs0
  go_wp2_with fail
  refine (rraw_m _ _ _ _ _ (by omega) hR1 (by omega)).mono ?_
  rintro r w2 ⟨A2, n2, c2, rfl, ho2, hR2, hA2⟩
  obtain ⟨p1, p2, p3⟩ := take_nn l 4 (by omega)
  rw [show (4 : Int).toNat = 4 from rfl, p1] at ho2
  rw [show (4 : Int).toNat = 4 from rfl, p2, p3] at hR2
  have hb2 := hb1.trans (hA2.below (by omega) hb1.size)
  have hr2 := blk_at hr1 hA2 (by omega)
  have hcv := string_of_sl (P := Try.prog) Try.underlying33 Try.underlying5 Try.underlying9 (Sl.of_own ho2)
  clear p1 p2 p3 hr1 hb1 hR1 hA2
  go_wp2_with fail
  clear hcv ho2
  refine (rnum_i _ _ _ _ _ hR2 (by omega) (by omega)).mono ?_
  rintro r w3 ⟨x3, rfl, hx3, hx3b, hR3, hA3⟩
  obtain ⟨p1, p2, p3⟩ := take_dd l 4 4 8 rfl (by omega)
  rw [show (4 : Int).toNat = 4 from rfl, p2, p3] at hR3
  have E3 : Hid (x3 = numAt l 4 4) := Lib.hid <| by have := hx3.out; rwa [show (4 : Int).toNat = 4 from rfl, p1] at this
  have hb3 := hb2.trans (hA3.below (by omega) hb2.size)
  have hr3 := blk_at hr2 hA3 (by omega)
  clear p1 p2 p3 hr2 hb2 hR2 hA3 hx3
  go_wp2_with fail
  refine (rnum_i _ _ _ _ _ hR3 (by omega) (by omega)).mono ?_
  rintro r w4 ⟨x4, rfl, hx4, hx4b, hR4, hA4⟩
  obtain ⟨p1, p2, p3⟩ := take_dd l 8 8 16 rfl (by omega)
  rw [show (8 : Int).toNat = 8 from rfl, p2, p3] at hR4
  have E4 : Hid (x4 = numAt l 8 8) := Lib.hid <| by have := hx4.out; rwa [show (8 : Int).toNat = 8 from rfl, p1] at this
  have hb4 := hb3.trans (hA4.below (by omega) hb3.size)
  have hr4 := blk_at hr3 hA4 (by omega)
  clear p1 p2 p3 hr3 hb3 hR3 hA4 hx4
  -- FIELDS
  go_wp2_with fail
  have hb5 := hb4.alloc hb4.size (.cells #[.int .u64 (x4 : Int), .int .u32 0, .int .u32 0, .int .u32 0] 29)
  have hq5 := heap_alloc_new w4 (.cells #[.int .u64 (x4 : Int), .int .u32 0, .int .u32 0, .int .u32 0] 29)
  have hr5 := blk_alloc hr4 (.cells #[.int .u64 (x4 : Int), .int .u32 0, .int .u32 0, .int .u32 0] 29)
  have hR5 := hR4.below ((Below.refl w4.heap.size w4).alloc (Nat.le_refl _) (.cells #[.int .u64 (x4 : Int), .int .u32 0, .int .u32 0, .int .u32 0] 29)) hR4.lt
  have hgq := hR4.lt
  obtain ⟨q, hq⟩ : ∃ q, w4.heap.size = q := ⟨_, rfl⟩
  have hwq : w.heap.size ≤ q := by rw [← hq]; exact hb4.size
  rw [hq] at hq5 hgq ⊢
  have hrq : w.heap.size ≠ q := by omega
  clear hq hr4 hb4 hR4
  generalize w4.alloc (.cells #[.int .u64 (x4 : Int), .int .u32 0, .int .u32 0, .int .u32 0] 29) = v0 at hb5 hq5 hr5 hR5 ⊢
  refine (rnum_i _ _ _ _ _ hR5 (by omega) (by omega)).mono ?_
  rintro r u1 ⟨y1, rfl, hx, hxb, hR, hA⟩
  obtain ⟨p1, p2, p3⟩ := take_dd l 16 4 20 rfl (by omega)
  rw [show (4 : Int).toNat = 4 from rfl, p2, p3] at hR
  have F1 : Hid (y1 = numAt l 16 4) := Lib.hid <| by have := hx.out; rwa [show (4 : Int).toNat = 4 from rfl, p1] at this
  have hxb1 : y1 < 4294967296 := by have := hxb; simpa using this
  have hbu1 := hb5.trans (hA.below (by omega) hb5.size)
  have hqu1 := blk_at hq5 hA (by omega)
  have hru1 := blk_at hr5 hA (by omega)
  have hw1 : IntKind.u32.wrap (y1 : Int) = (y1 : Int) := IntWalk.u32_in _ (by omega)
  have hc1 := blk_cell hqu1 1
  have hf1 := blk_frozen hqu1 1
  clear hx hxb p1 p2 p3 hA hb5 hq5 hr5 hR5
  go_wp2_with fail
  have hq6 : (u1.setCell ⟨q, 1, none⟩ (.int .u32 (y1 : Int))).heap[q]? = some (.cells #[.int .u64 (x4 : Int), .int .u32 (y1 : Int), .int .u32 0, .int .u32 0] 29 (0, 0)) := by simpa using blk_set hqu1 1 (.int .u32 (y1 : Int))
  have hr6 := blk_far hru1 (p := ⟨q, 1, none⟩) hrq (.int .u32 (y1 : Int))
  have hb6 := hbu1.setCell (p := ⟨q, 1, none⟩) hwq (.int .u32 (y1 : Int))
  have hR6 := hR.below ((Below.refl q u1).setCell (p := ⟨q, 1, none⟩) (Nat.le_refl _) (.int .u32 (y1 : Int))) hgq
  clear hbu1 hqu1 hru1 hR hc1 hf1 hw1
  generalize u1.setCell ⟨q, 1, none⟩ (.int .u32 (y1 : Int)) = v1 at hb6 hq6 hr6 hR6 ⊢
  refine (rnum_i _ _ _ _ _ hR6 (by omega) (by omega)).mono ?_
  rintro r u2 ⟨y2, rfl, hx, hxb, hR, hA⟩
  obtain ⟨p1, p2, p3⟩ := take_dd l 20 4 24 rfl (by omega)
  rw [show (4 : Int).toNat = 4 from rfl, p2, p3] at hR
  have F2 : Hid (y2 = numAt l 20 4) := Lib.hid <| by have := hx.out; rwa [show (4 : Int).toNat = 4 from rfl, p1] at this
  have hxb2 : y2 < 4294967296 := by have := hxb; simpa using this
  have hbu2 := hb6.trans (hA.below (by omega) hb6.size)
  have hqu2 := blk_at hq6 hA (by omega)
  have hru2 := blk_at hr6 hA (by omega)
  have hw2 : IntKind.u32.wrap (y2 : Int) = (y2 : Int) := IntWalk.u32_in _ (by omega)
  have hc2 := blk_cell hqu2 2
  have hf2 := blk_frozen hqu2 2
  clear hx hxb p1 p2 p3 hA hb6 hq6 hr6 hR6
  go_wp2_with fail
  have hq6 : (u2.setCell ⟨q, 2, none⟩ (.int .u32 (y2 : Int))).heap[q]? = some (.cells #[.int .u64 (x4 : Int), .int .u32 (y1 : Int), .int .u32 (y2 : Int), .int .u32 0] 29 (0, 0)) := by simpa using blk_set hqu2 2 (.int .u32 (y2 : Int))
  have hr6 := blk_far hru2 (p := ⟨q, 2, none⟩) hrq (.int .u32 (y2 : Int))
  have hb6 := hbu2.setCell (p := ⟨q, 2, none⟩) hwq (.int .u32 (y2 : Int))
  have hR6 := hR.below ((Below.refl q u2).setCell (p := ⟨q, 2, none⟩) (Nat.le_refl _) (.int .u32 (y2 : Int))) hgq
  clear hbu2 hqu2 hru2 hR hc2 hf2 hw2
  generalize u2.setCell ⟨q, 2, none⟩ (.int .u32 (y2 : Int)) = v2 at hb6 hq6 hr6 hR6 ⊢
  refine (rnum_i _ _ _ _ _ hR6 (by omega) (by omega)).mono ?_
  rintro r u3 ⟨y3, rfl, hx, hxb, hR, hA⟩
  obtain ⟨p1, p2, p3⟩ := take_dd l 24 4 28 rfl (by omega)
  rw [show (4 : Int).toNat = 4 from rfl, p2, p3] at hR
  have F3 : Hid (y3 = numAt l 24 4) := Lib.hid <| by have := hx.out; rwa [show (4 : Int).toNat = 4 from rfl, p1] at this
  have hxb3 : y3 < 4294967296 := by have := hxb; simpa using this
  have hbu3 := hb6.trans (hA.below (by omega) hb6.size)
  have hqu3 := blk_at hq6 hA (by omega)
  have hru3 := blk_at hr6 hA (by omega)
  have hw3 : IntKind.u32.wrap (y3 : Int) = (y3 : Int) := IntWalk.u32_in _ (by omega)
  have hc3 := blk_cell hqu3 3
  have hf3 := blk_frozen hqu3 3
  clear hx hxb p1 p2 p3 hA hb6 hq6 hr6 hR6
  go_wp2_with fail
  have hq6 : (u3.setCell ⟨q, 3, none⟩ (.int .u32 (y3 : Int))).heap[q]? = some (.cells #[.int .u64 (x4 : Int), .int .u32 (y1 : Int), .int .u32 (y2 : Int), .int .u32 (y3 : Int)] 29 (0, 0)) := by simpa using blk_set hqu3 3 (.int .u32 (y3 : Int))
  have hr6 := blk_far hru3 (p := ⟨q, 3, none⟩) hrq (.int .u32 (y3 : Int))
  have hb6 := hbu3.setCell (p := ⟨q, 3, none⟩) hwq (.int .u32 (y3 : Int))
  have hR6 := hR.below ((Below.refl q u3).setCell (p := ⟨q, 3, none⟩) (Nat.le_refl _) (.int .u32 (y3 : Int))) hgq
  clear hbu3 hqu3 hru3 hR hc3 hf3 hw3
  generalize u3.setCell ⟨q, 3, none⟩ (.int .u32 (y3 : Int)) = v3 at hb6 hq6 hr6 hR6 ⊢
  refine (rnum_i _ _ _ _ _ hR6 (by omega) (by omega)).mono ?_
  rintro r u4 ⟨s, rfl, hx, hxb, hR, hA⟩
  obtain ⟨p1, p2, p3⟩ := take_dd l 28 4 32 rfl (by omega)
  have F4 : Hid (s = numAt l 28 4) := Lib.hid <| by have := hx.out; rwa [show (4 : Int).toNat = 4 from rfl, p1] at this
  have hxb4 : s < 4294967296 := by have := hxb; simpa using this
  have hb7 := hb6.trans (hA.below (by omega) hb6.size)
  have hq7 := blk_at hq6 hA (by omega)
  have hr7 := blk_at hr6 hA (by omega)
  clear hx hxb p1 p2 p3 hA hb6 hq6 hr6 hR6 hR
  go_wp2_with fail
  have hs7 := h.belowX hb7
  obtain ⟨P, hP⟩ : ∃ P, l.take 4 = P := ⟨_, rfl⟩
  have HP := Lib.hid hP
  rw [hP]
  clear hP h
  have hbd : ∀ j, Below w.heap.size w (u4.drewN j) := fun j => below_drewN hb7 j
  by_cases c1 : P = [82, 85, 66, 49]
  · have k1 : (P == [82, 85, 66, 49]) = true := by simpa using c1
    have hnw : IntKind.u64.wrap (n : Int) = (n : Int) := IntWalk.u64_in _ (by omega)
    by_cases c2 : x3 = n
    · have k2 : ((x3 : Int) != (n : Int)) = false := by simp [c2]
      have C2 := Lib.hid c2
      have C1 := Lib.hid c1
      clear c1 c2
      obtain ⟨ii, hi0, hz0, hz1, hz2⟩ := info_parts info_u8
      obtain ⟨A9, hcut9', hsl9⟩ := cut_l (P := Try.prog) 33 5 .i64 Try.underlying33 hi0 hz1 A n c 32 (by omega)
      have hcut9 : ∀ W : World, (Instr.slice 33 (.slice A n c) (some (.int .i64 32)) none none).run Try.prog W = .ok (.slice A9 (n - 32) (c - 32)) W := hcut9'
      have hsub : IntKind.i64.wrap ((n : Int) - 32) = (n : Int) - 32 := IntWalk.i64_in _ (by omega)
      clear hcut9'
      have hmk := fun W : World => run_make (P := Try.prog) W 33 5 ii _ Try.underlying33 hi0 hz0 .i64 .i64 ((n : Int) - 32) ((n : Int) - 32) (by omega) (Int.le_refl _) (by rw [hz2]; omega) (by omega)
      have htn : ((n : Int) - 32).toNat = n - 32 := by omega
      rw [hz1, htn] at hmk
      have hrow : RowB (u4.alloc (.cells (madeCells #[Value.int .u8 0] (n - 32)) 5)) u4.heap.size (List.replicate (n - 32) 0) := by have h0 := RowB.made u4 (n - 32); rw [Nat.mul_one] at h0; exact h0
      have hs9 : Sl (u4.alloc (.cells (madeCells #[Value.int .u8 0] (n - 32)) 5)).drew w.heap.size A9 (n - 32) (c - 32) (l.drop 32) := (hsl9 _ _ _ hs7).keep fun j hj => Below.heap_alloc _ _ _ (Nat.lt_of_lt_of_le hj hb7.size)
      have hs10 := (hrow.slN (n := n - 32) (by simp) (by omega))
      have hs11 : Sl (u4.alloc (.cells (madeCells #[Value.int .u8 0] (n - 32)) 5)).drew _ _ _ _ _ := hs10.keep fun j hj => rfl
      have he := bytes_eq _ _ _ _ _ _ _ _ _ _ _ hs9 hs11
      have hr9 := blk_alloc hr7 (.cells (madeCells #[Value.int .u8 0] (n - 32)) 5)
      have hq9 := blk_alloc hq7 (.cells (madeCells #[Value.int .u8 0] (n - 32)) 5)
      have hb9 := hb7.alloc hb7.size (.cells (madeCells #[Value.int .u8 0] (n - 32)) 5)
      clear hrow hs10 hs11 hs9 hsl9
      by_cases c3 : l.drop 32 = List.replicate (n - 32) 0
      · rw [decide_eq_true c3] at he
        have HE := Lib.hid he
        have C3 := Lib.hid c3
        clear he c3
        go_region_held3 (fun w' => Below w.heap.size w w') (first | exact hb7.drew | exact (hb7.alloc hb7.size _).drew) (first | (go_at_call 34; refine HE.out.mono ?_; rintro r w9 ⟨rfl, rfl⟩))
        have hr8 : (u4.alloc (.cells (madeCells #[Value.int .u8 0] (n - 32)) 5)).drew.heap[w.heap.size]? = _ := hr9
        have hq8 : (u4.alloc (.cells (madeCells #[Value.int .u8 0] (n - 32)) 5)).drew.heap[q]? = _ := hq9
        have hs8 : Sl (u4.alloc (.cells (madeCells #[Value.int .u8 0] (n - 32)) 5)).drew w.heap.size A n c l := hs7.keep fun j hj => Below.heap_alloc _ _ _ (Nat.lt_of_lt_of_le hj hb7.size)
        have hb8 := hb9.drew
        clear hr9 hq9 hb9 HE hmk
        generalize (u4.alloc (.cells (madeCells #[Value.int .u8 0] (n - 32)) 5)).drew = v at hr8 hq8 hb8 hs8 ⊢
        obtain ⟨A28, hcut28', hsl28⟩ := cut_h (P := Try.prog) 33 5 .i64 Try.underlying33 hi0 hz1 A n c 28 (by have := hs8.cap; omega)
        have hcut28 : ∀ W : World, (Instr.slice 33 (.slice A n c) none (some (.int .i64 28)) none).run Try.prog W = .ok (.slice A28 28 c) W := hcut28'
        have hs28 := hsl28 _ _ _ (by omega) hs8
        clear hcut28' hcut9 hsub htn
        go_wp2_with fail
        refine (crcof_any _ v.heap.size _ A28 28 c (l.take 28) (blk_cell (heap_alloc_new v (.cells #[.slice A28 28 c] 33)) 0) (hs28.below ((Below.refl _ _).alloc hb8.size _)) (by omega)).mono ?_
        rintro r v2 ⟨rfl, hbv'⟩
        have hbv : Below v.heap.size v v2 := ((Below.refl _ _).alloc (Nat.le_refl _) _).trans (hbv'.mono (by simp))
        have hrv := blk_below hr8 hbv (blk_lt hr8)
        have hqv := blk_below hq8 hbv (blk_lt hq8)
        have hb9 := hb8.trans (hbv.mono hb8.size)
        have hcl := crcOf_lt (l.take 28)
        obtain ⟨X, hX⟩ : ∃ X, crcOf (l.take 28) = X := ⟨_, rfl⟩
        rw [hX] at hcl ⊢
        have HX := Lib.hid hX
        have hXw : IntKind.u64.wrap (X : Int) = (X : Int) := IntWalk.u64_in _ (by omega)
        clear hr8 hq8 hb8 hs8 hs28 hsl28 hbv hbv' hX hbd hr7 hb7 hq7 hs7 hcut28
        have hg0 : ¬ ¬ (512 ≤ l.length ∧ l.length ≤ 4096) := by have := HLEN.out; intro hh; exact hh ⟨by omega, by omega⟩
        have hg1 : ¬ ¬ (l.take 4 = [82, 85, 66, 49] ∧ numAt l 4 4 = l.length ∧ l.drop 32 = List.replicate (l.length - 32) 0) := fun hh => hh ⟨HP.out.trans C1.out, by rw [← E3.out, C2.out, HLEN.out], by rw [C3.out, HLEN.out]⟩
        have HG0 := Lib.hid hg0
        have HG1 := Lib.hid hg1
        clear hg0 hg1
        by_cases c4 : s = X
        · have k4 : ((s : Int) != (X : Int)) = false := by simp [c4]
          have C4 := Lib.hid c4
          clear c4
          have hx4l : x4 < 18446744073709551616 := by have := hx4b; simpa using this
          obtain ⟨⟨m0, m1, m2, m3⟩, _⟩ := cell4 hqv
          have hright := right_any v2 x4 y1 y2 y3 hx4l hxb1 hxb2 hxb3
          have hg2 : ¬ (numAt l 28 4 ≠ crcOf (l.take 28)) := fun hh => hh (by rw [← F4.out, C4.out, HX.out])
          have HG2 := Lib.hid hg2
          clear hg2 hxb1 hxb2 hxb3 hx4b hx4l hx3b
          by_cases c5 : MRight x4 y1 y2 y3
          · rw [decide_eq_true c5] at hright
            have hm : mGet l = (some (x4, y1, y2, y3), 0) := by
              unfold mGet
              rw [if_neg HG0.out, if_neg HG1.out, if_neg HG2.out, if_neg (by rw [← E4.out, ← F1.out, ← F2.out, ← F3.out]; exact fun hh => hh c5), ← E4.out, ← F1.out, ← F2.out, ← F3.out]
            have HM := Lib.hid hm
            have HRI := Lib.hid hright
            clear hm c5 hright
            go_wp2_with fail
            refine HRI.out.mono ?_
            rintro r v3 ⟨rfl, hbz⟩
            have hr5 := blk_below hrv hbz (blk_lt hrv)
            have hq5 := blk_below hqv hbz (blk_lt hqv)
            have hb10 := hb9.trans (hbz.mono hb9.size)
            clear m0 m1 m2 m3 hrv hqv
            obtain ⟨⟨m0, m1, m2, m3⟩, _⟩ := cell4 hq5
            obtain ⟨⟨z0, z1, z2, z3⟩, f0, f1, f2, f3⟩ := cell4 hr5
            go_wp2
            obtain ⟨⟨t0, t1, t2, t3⟩, _⟩ := cell4 (set4 hr5 (.int .u64 (x4 : Int)) (.int .u32 (y1 : Int)) (.int .u32 (y2 : Int)) (.int .u32 (y3 : Int)))
            have hb11 := below4 hb10 (Nat.le_refl _) (.int .u64 (x4 : Int)) (.int .u32 (y1 : Int)) (.int .u32 (y2 : Int)) (.int .u32 (y3 : Int))
            exact bodyPost_ret (v := .tuple #[.agg #[.int .u64 (x4 : Int), .int .u32 (y1 : Int), .int .u32 (y2 : Int), .int .u32 (y3 : Int)], .int .i64 0]) (by simp [results, Try.results17, go_sem, t0, t1, t2, t3]) rfl ⟨by rw [HM.out]; rfl, hb11⟩
          · rw [decide_eq_false c5] at hright
            have hm : mGet l = (none, 11) := by
              unfold mGet
              rw [if_neg HG0.out, if_neg HG1.out, if_neg HG2.out, if_pos (by rw [← E4.out, ← F1.out, ← F2.out, ← F3.out]; exact c5)]
            have HM := Lib.hid hm
            have HRI := Lib.hid hright
            clear hm c5 hright
            go_wp2_with fail
            refine HRI.out.mono ?_
            rintro r v3 ⟨rfl, hbz⟩
            have hr5 := blk_below hrv hbz (blk_lt hrv)
            have hb10 := hb9.trans (hbz.mono hb9.size)
            clear m0 m1 m2 m3 hrv hqv
            obtain ⟨⟨z0, z1, z2, z3⟩, f0, f1, f2, f3⟩ := cell4 hr5
            go_wp2
            obtain ⟨⟨t0, t1, t2, t3⟩, _⟩ := cell4 (set4 hr5 (.int .u64 0) (.int .u32 0) (.int .u32 0) (.int .u32 0))
            have hb11 := below4 hb10 (Nat.le_refl _) (.int .u64 0) (.int .u32 0) (.int .u32 0) (.int .u32 0)
            exact bodyPost_ret (v := .tuple #[.agg #[.int .u64 0, .int .u32 0, .int .u32 0, .int .u32 0], .int .i64 11]) (by simp [results, Try.results17, go_sem, t0, t1, t2, t3]) rfl ⟨by rw [HM.out]; rfl, hb11⟩
        · have k4 : ((s : Int) != (X : Int)) = true := by simp only [bne_iff_ne, ne_eq, Int.natCast_inj]; exact c4
          have hm : mGet l = (none, 14) := by
            unfold mGet
            rw [if_neg HG0.out, if_neg HG1.out, if_pos (fun hh => c4 (by rw [F4.out, hh, HX.out]))]
          have HM := Lib.hid hm
          clear hm c4
          obtain ⟨⟨z0, z1, z2, z3⟩, f0, f1, f2, f3⟩ := cell4 hrv
          go_wp2
          obtain ⟨⟨t0, t1, t2, t3⟩, _⟩ := cell4 (set4 hrv (.int .u64 0) (.int .u32 0) (.int .u32 0) (.int .u32 0))
          have hb10 := below4 hb9 (Nat.le_refl _) (.int .u64 0) (.int .u32 0) (.int .u32 0) (.int .u32 0)
          exact bodyPost_ret (v := .tuple #[.agg #[.int .u64 0, .int .u32 0, .int .u32 0, .int .u32 0], .int .i64 14]) (by simp [results, Try.results17, go_sem, t0, t1, t2, t3]) rfl ⟨by rw [HM.out]; rfl, hb10⟩
      · rw [decide_eq_false c3] at he
        have HE := Lib.hid he
        have hm : mGet l = (none, 11) := by
          unfold mGet
          rw [if_neg (by have := HLEN.out; intro hh; exact hh ⟨by omega, by omega⟩), if_pos (fun hh => c3 (by rw [hh.2.2, HLEN.out]))]
        have HM := Lib.hid hm
        clear he c3 hm
        go_region_held3 (fun w' => Below w.heap.size w w') (first | exact hb7.drew | exact (hb7.alloc hb7.size _).drew) (first | (go_at_call 34; refine HE.out.mono ?_; rintro r w9 ⟨rfl, rfl⟩))
        have hr8 : (u4.alloc (.cells (madeCells #[Value.int .u8 0] (n - 32)) 5)).drew.heap[w.heap.size]? = _ := hr9
        have hq8 : (u4.alloc (.cells (madeCells #[Value.int .u8 0] (n - 32)) 5)).drew.heap[q]? = _ := hq9
        have hs8 : Sl (u4.alloc (.cells (madeCells #[Value.int .u8 0] (n - 32)) 5)).drew w.heap.size A n c l := hs7.keep fun j hj => Below.heap_alloc _ _ _ (Nat.lt_of_lt_of_le hj hb7.size)
        have hb8 := hb9.drew
        clear hr9 hq9 hb9 HE hmk
        generalize (u4.alloc (.cells (madeCells #[Value.int .u8 0] (n - 32)) 5)).drew = v at hr8 hq8 hb8 hs8 ⊢
        obtain ⟨⟨z0, z1, z2, z3⟩, f0, f1, f2, f3⟩ := cell4 hr8
        clear hbd hr7 hb7 hq7 hs7
        go_wp2
        obtain ⟨⟨t0, t1, t2, t3⟩, _⟩ := cell4 (set4 hr8 (.int .u64 0) (.int .u32 0) (.int .u32 0) (.int .u32 0))
        have hb9 := below4 hb8 (Nat.le_refl _) (.int .u64 0) (.int .u32 0) (.int .u32 0) (.int .u32 0)
        exact bodyPost_ret (v := .tuple #[.agg #[.int .u64 0, .int .u32 0, .int .u32 0, .int .u32 0], .int .i64 11]) (by simp [results, Try.results17, go_sem, t0, t1, t2, t3]) rfl ⟨by rw [HM.out]; rfl, hb9⟩
    · have k2 : ((x3 : Int) != (n : Int)) = true := by simp only [bne_iff_ne, ne_eq, Int.natCast_inj]; exact c2
      have hm : mGet l = (none, 11) := by
        unfold mGet
        rw [if_neg (by have := HLEN.out; intro hh; exact hh ⟨by omega, by omega⟩), if_pos (fun hh => c2 (by rw [E3.out]; exact hh.2.1.trans HLEN.out))]
      have HM := Lib.hid hm
      clear hm c1 c2
      go_quiet (fail)
      have hr8 : (u4.drewN nq).heap[w.heap.size]? = _ := hr7
      have hb8 := hbd nq
      generalize u4.drewN nq = v at hr8 hb8 ⊢
      obtain ⟨⟨z0, z1, z2, z3⟩, f0, f1, f2, f3⟩ := cell4 hr8
      clear hbd hr7 hb7 hq7 hs7
      go_wp2
      obtain ⟨⟨t0, t1, t2, t3⟩, _⟩ := cell4 (set4 hr8 (.int .u64 0) (.int .u32 0) (.int .u32 0) (.int .u32 0))
      have hb9 := below4 hb8 (Nat.le_refl _) (.int .u64 0) (.int .u32 0) (.int .u32 0) (.int .u32 0)
      exact bodyPost_ret (v := .tuple #[.agg #[.int .u64 0, .int .u32 0, .int .u32 0, .int .u32 0], .int .i64 11]) (by simp [results, Try.results17, go_sem, t0, t1, t2, t3]) rfl ⟨by rw [HM.out]; rfl, hb9⟩
  · have k1 : (P == [82, 85, 66, 49]) = false := by simpa using c1
    have hm : mGet l = (none, 11) := by
      unfold mGet
      rw [if_neg (by have := HLEN.out; intro hh; exact hh ⟨by omega, by omega⟩), if_pos (fun hh => c1 (by rw [← HP.out]; exact hh.1))]
    have HM := Lib.hid hm
    clear hm c1
    go_quiet (fail)
    have hr8 : (u4.drewN nq).heap[w.heap.size]? = _ := hr7
    have hb8 := hbd nq
    generalize u4.drewN nq = v at hr8 hb8 ⊢
    obtain ⟨⟨z0, z1, z2, z3⟩, f0, f1, f2, f3⟩ := cell4 hr8
    clear hbd hr7 hb7 hq7 hs7
    go_wp2
    obtain ⟨⟨t0, t1, t2, t3⟩, _⟩ := cell4 (set4 hr8 (.int .u64 0) (.int .u32 0) (.int .u32 0) (.int .u32 0))
    have hb9 := below4 hb8 (Nat.le_refl _) (.int .u64 0) (.int .u32 0) (.int .u32 0) (.int .u32 0)
    exact bodyPost_ret (v := .tuple #[.agg #[.int .u64 0, .int .u32 0, .int .u32 0, .int .u32 0], .int .i64 11]) (by simp [results, Try.results17, go_sem, t0, t1, t2, t3]) rfl ⟨by rw [HM.out]; rfl, hb9⟩
theorem mget_any (w : World) (B : Nat) (A : Option Addr) (n c : Nat) (l : List UInt8) (h : Sl w B A n c l) (hn : n ≤ 140737488355328) :
    Calls Try.prog 17 #[.slice A n c] w fun r w' => r = .returned (.tuple #[metaV (mGet l).1, .int .i64 (mGet l).2]) ∧ Below w.heap.size w w' := by
  by_cases hl : 512 ≤ n ∧ n ≤ 4096
  · exact mget_in w B A n c l h hl.1 hl.2
  · exact mget_len w B A n c l h hn hl
end Go.Proofs.Ytpipgeboddaipaa
