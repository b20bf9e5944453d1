/- DiskOwn. -/
import Derived.Test.YthijobbhpbklmaaFrom
import Derived.BigQuiet
namespace Go.Proofs.Ythijobbhpbklmaa
open Go.RowKit
set_option linter.unusedVariables false
set_option linter.unusedSimpArgs false

theorem DiskAt.wide {w : World} {base p : Nat} {ok ok' : Nat → Prop} {D : Dk} (h : DiskAt w base ok p D) (hk : ∀ k, ok k → ok' k) : DiskAt w base ok' p D := h.other fun k _ ho => ⟨rfl, hk k ho⟩
theorem RowB.fr {w w' : World} {g : Nat} {l : List UInt8} {ok : Nat → Prop} (h : RowB w g l) (hF : Fr ok w w') (hg : ¬ ok g) : RowB w' g l := (hF.2.2.2.2 g h.lt hg).trans h
theorem DiskAt.wf {w : World} {base p : Nat} {ok : Nat → Prop} {D : Dk} (h : DiskAt w base ok p D) : D.OK := by
  obtain ⟨_, _, _, _, h⟩ := h
  exact h.wf
theorem DiskAt.bp {w : World} {base p : Nat} {ok : Nat → Prop} {D : Dk} (h : DiskAt w base ok p D) : p < w.heap.size ∧ ok p := by
  obtain ⟨_, _, _, _, h⟩ := h
  exact ⟨h.blk.lt, h.okp⟩
theorem DiskAt.setOther {w : World} {base p : Nat} {ok : Nat → Prop} {D : Dk} (h : DiskAt w base ok p D) {g : Nat} (hg : ¬ ok g) (i : Nat) (u : Value) : DiskAt (w.setCell ⟨g, i, none⟩ u) base ok p D :=
  h.other fun k _ ho => ⟨Below.heap_setCell _ _ _ _ (fun e => hg (by have e : k = g := e; rw [← e]; exact ho)), ho⟩
theorem Sl.byte {w : World} {B : Nat} {A : Option Addr} {n c : Nat} {l : List UInt8} (h : Sl w B A n c l) {j : Nat} (hj : j < n) : ∃ ad x, A = some ad ∧ ad.block < B ∧ l[j]? = some x ∧ w.cell? (ad.add j) = some (.int .u8 (x.toNat : Int)) := by
  obtain ⟨ad, u, ea, hb, hu, hc⟩ := h.reads.at_ hj
  simp only [bv, List.getElem?_map, Option.map_eq_some_iff] at hu
  obtain ⟨q, hq, rfl⟩ := hu
  exact ⟨ad, q, ea, hb, hq, hc⟩

theorem chL_all (l : List UInt8) (h : l.length = 512) : chL l 512 0 = l := by
  unfold chL
  rw [Nat.zero_mul, List.drop_zero, List.take_of_length_le (by omega)]
theorem own_good (l : List UInt8) (h : l.length = 512) : (dFrom 512 3 l).good = [l] := by
  show (List.range (l.length / 512)).map (chL l 512) = [l]
  rw [h, show List.range (512 / 512) = [0] from rfl]
  show [chL l 512 0] = [l]
  rw [chL_all l h]

theorem crashed_none (g : List (List UInt8)) (l : List (Nat × List UInt8)) : crashed g l [] = g := by cases l <;> rfl

set_option maxRecDepth 100000 in
set_option maxHeartbeats 1000000 in
theorem diskOwn_early (w : World) (A0 : Option Addr) (n0 c0 : Nat) (x : Int) (h : n0 = 0 ∨ 100 < n0) :
    Calls Try.prog 7 #[.slice A0 n0 c0, .int .u8 x] w fun e w' => e = .returned (.bool true) ∧ Below w.heap.size w w' := by
  have haw := awake03 w
  by_cases h0 : n0 = 0
  · subst h0
    go_enter Try.func7, Try.ntmps7
    go_wp2_with fail
    refine haw.mono ?_
    rintro e w1 ⟨rfl, hb1⟩
    go_wp2_with fail
    go_ret
    exact ⟨rfl, hb1⟩
  have d0 : ((n0 : Int) == 0) = false := by simp [h0]
  have d0n : (n0 == 0) = false := by simp [h0]
  have h1 : 100 < n0 := by omega
  have d1 : decide (100 < n0) = true := decide_eq_true h1
  have d1' : decide ((100 : Int) < (n0 : Int)) = true := decide_eq_true (by omega)
  clear h
  go_enter Try.func7, Try.ntmps7
  go_wp2_with fail
  refine haw.mono ?_
  rintro e w1 ⟨rfl, hb1⟩
  go_wp2_with fail
  go_ret
  exact ⟨rfl, hb1⟩

set_option maxRecDepth 100000 in
set_option maxHeartbeats 2000000 in
theorem diskOwn_law (w : World) (A0 : Option Addr) (n c0 : Nat) (bs : List UInt8) (x : UInt8) (s0 : Sl w w.heap.size A0 n c0 bs) :
    Calls Try.prog 7 #[.slice A0 n c0, .int .u8 (x.toNat : Int)] w fun e w' => e = .returned (.bool true) ∧ Below w.heap.size w w' := by
  by_cases hearly : n = 0 ∨ 100 < n
  · exact diskOwn_early w A0 n c0 _ hearly
  have haw := awake03 w
  have hn0 : 0 < n := by omega
  have hn6 : n ≤ 100 := by omega
  have d0 : ((n : Int) == 0) = false := by simp; omega
  have d0n : (n == 0) = false := by simp; omega
  have d1 : decide (100 < n) = false := decide_eq_false (by omega)
  have d1' : decide ((100 : Int) < (n : Int)) = false := decide_eq_false (by omega)
  clear hearly
  have S0 := Lib.hid s0
  clear s0
  obtain ⟨b, hb⟩ : ∃ b, w.heap.size = b := ⟨_, rfl⟩
  rw [hb] at haw S0 ⊢
  go_enter Try.func7, Try.ntmps7
  go_wp2_with fail
  refine haw.mono ?_
  rintro e w1 ⟨rfl, hb1⟩
  have hz1 := hb1.size
  rw [hb] at hz1
  go_wp2_with fail
  refine (full_is w1 512 (by omega) (by omega) b _ n _ bs (S0.out.below hb1) hz1 (by omega) (by omega)).mono ?_
  rintro e w2 ⟨rfl, hr2, hb2⟩
  have hz2 := hb2.size
  have hbb2 := hb1.trans (hb2.mono hz1)
  clear hb2 hb1 haw
  generalize w1.heap.size = pp at hr2 hz1 hz2 ⊢
  have hl512 : (fullB 512 bs).length = 512 := fullB_length _ _
  generalize fullB 512 bs = l at hr2 hl512
  have hqp := hr2.lt
  go_wp2_with fail
  refine (dfrom_is w2 (some ⟨pp, 0, none⟩) 512 512 l 512 3 (hr2.slN hl512 (by omega)) (by unfold NewOk; omega) (by omega) (by omega) b (fun k => b ≤ k ∧ k ≠ pp) (by omega) (fun k hk => by omega)).mono ?_
  rintro e w3 ⟨rfl, hD3, hb3⟩
  have hR3 := hr2.below hb3 hqp
  have hz3 := hb3.size
  have hbb3 := hbb2.trans (hb3.mono (by omega))
  clear hb3 hbb2 hr2
  generalize w2.heap.size = p at hD3 hz2 hz3 hqp ⊢
  have hg3 := own_good l hl512
  have hL3 : (dFrom 512 3 l).loose = [] := rfl
  have hC3 : (dFrom 512 3 l).calls = 0 := rfl
  have hS3 : (dFrom 512 3 l).size = 512 := rfl
  have hF3 : (dFrom 512 3 l).fails = -1 := rfl
  generalize dFrom 512 3 l = D3 at hD3 hg3 hL3 hC3 hS3 hF3
  go_wp2_with fail
  refine (dwrite_any hD3 (fun k hk => by show b ≤ k ∧ k ≠ pp; omega) (by omega) (by omega) (by rw [hL3]; exact Nat.zero_le _) (0 : Int) _ _ _ _ _ (hR3.slN (n := 512) hl512 (by omega)) (fun ad e => by
    injection e with e
    subst e
    exact ⟨by show pp ≠ p; omega, hR3.lt⟩) (by omega)).mono ?_
  rintro e w4 hP
  obtain ⟨rfl, hD4, hF4⟩ : e = .returned (.int .i64 0) ∧ DiskAt w4 b (fun k => b ≤ k ∧ k ≠ pp) p (D3.count.written 0 l) ∧ Fr (fun k => b ≤ k ∧ k ≠ pp) w3 w4 := by
    rcases hP with ⟨h, _⟩ | ⟨_, h, _⟩ | ⟨_, _, h, _⟩ | ⟨_, _, _, h1, h2, h3⟩
    · exact absurd (show (0 : Int) ≤ 0 ∧ (0 : Int) < (D3.good.length : Int) by rw [hg3]; exact ⟨Int.le_refl _, Int.zero_lt_one⟩) h
    · exact absurd (show l.length = D3.size by rw [hl512, hS3]) h
    · exact absurd h (by rw [hF3]; omega)
    · exact ⟨h1, h2, h3⟩
  have hR4 := hR3.fr hF4 (fun h => h.2 rfl)
  have hbb4 := hbb3.trans (hF4.below (B := b) (by omega) (fun k hk => by show ¬ (b ≤ k ∧ k ≠ pp); omega))
  have hz4 := hF4.size
  have hg4 : (D3.count.written 0 l).good = [l] := hg3
  have hL4 : (D3.count.written 0 l).look 0 = l := by
    show lookIn (D3.loose ++ [(0, l)]) 0 _ = l
    rw [lookIn_snoc, if_pos rfl]
  have hlo4 : (D3.count.written 0 l).loose.length ≤ 1 := by
    show (D3.loose ++ [(0, l)]).length ≤ 1
    rw [hL3]; exact Nat.le_refl _
  have hC4 : (D3.count.written 0 l).calls ≤ 1 := by show D3.calls + 1 ≤ 1; omega
  have hS4 : (D3.count.written 0 l).size = 512 := hS3
  have hf4 : (D3.count.written 0 l).fails = -1 := by show (if D3.fails = -1 then -1 else D3.fails - 1) = -1; rw [hF3]; rfl
  generalize D3.count.written 0 l = D4 at hD4 hg4 hL4 hlo4 hC4 hS4 hf4
  clear hP hD3 hR3 hF4 hbb3 hg3 hL3 hC3 hS3 hF3
  obtain ⟨y, hy⟩ : ∃ y, l[7]? = some y := ⟨_, List.getElem?_eq_getElem (by omega)⟩
  have hyc := hR4.cell hy
  have hyf := hR4.frozen 7
  have HD5 := Lib.hid (hD4.setOther (g := pp) (fun h => h.2 rfl) 7 (.int .u8 (x.toNat : Int)))
  have HB5 := Lib.hid (hbb4.setCell (p := ⟨pp, 7, none⟩) (by show b ≤ pp; omega) (.int .u8 (x.toNat : Int)))
  have hz5 : w4.heap.size ≤ (w4.setCell ⟨pp, 7, none⟩ (.int .u8 (x.toNat : Int))).heap.size := by simp
  have HY := Lib.hid hy
  have HL := Lib.hid hL4
  have HG := Lib.hid hg4
  clear hD4 hbb4 hR4 hy hL4 hg4
  go_wp2_with fail
  clear hyc hyf
  generalize w4.setCell ⟨pp, 7, none⟩ (.int .u8 (x.toNat : Int)) = w5 at HD5 HB5 hz5 ⊢
  refine (dread_any HD5.out (fun k hk => by show b ≤ k ∧ k ≠ pp; omega) (by omega) (by omega) (by omega) (0 : Int)).mono ?_
  rintro e w6 hP
  obtain ⟨g, cg, rfl, hcg, hgl, hM, hD6, hF6⟩ : ∃ g c, e = .returned (.tuple #[.slice (some ⟨g, 0, none⟩) 512 c, .int .i64 0]) ∧ 512 ≤ c ∧ w5.heap.size ≤ g ∧ MB w6 g l ∧ DiskAt w6 b (fun k => (b ≤ k ∧ k ≠ pp) ∧ k ≠ g) p D4.count ∧ Fr (fun k => b ≤ k ∧ k ≠ pp) w5 w6 := by
    rcases hP with ⟨h, _⟩ | ⟨_, h, _⟩ | ⟨_, _, g, c, h1, h2, h3, h4, _, h5, h6⟩
    · exact absurd (show (0 : Int) ≤ 0 ∧ (0 : Int) < (D4.good.length : Int) by rw [HG.out]; exact ⟨Int.le_refl _, Int.zero_lt_one⟩) h
    · exact absurd h (by rw [hf4]; omega)
    · rw [hS4] at h1 h2
      rw [Int.toNat_zero, HL.out] at h4
      exact ⟨g, c, h1, h2, h3, h4, h5, h6⟩
  have hbb6 := HB5.out.trans (hF6.below (B := b) (by omega) (fun k hk => by show ¬ (b ≤ k ∧ k ≠ pp); omega))
  have hz6 := hF6.size
  have hm7 := hM.2 7 y HY.out
  obtain ⟨hm7, hm7f⟩ := hm7
  have hg6 := hM.1
  obtain ⟨u, hu⟩ : ∃ u, IntKind.u8.wrap ((x.toNat : Int) + 1) = u := ⟨_, rfl⟩
  have HD7 := Lib.hid (hD6.setOther (g := g) (fun h => h.2 rfl) 7 (.int .u8 u))
  have HB7 := Lib.hid (hbb6.setCell (p := ⟨g, 7, none⟩) (by show b ≤ g; omega) (.int .u8 u))
  have hz7 : w6.heap.size ≤ (w6.setCell ⟨g, 7, none⟩ (.int .u8 u)).heap.size := by simp
  clear hP hM hD6 hF6 hbb6 HD5 HB5 HL
  go_wp2_with fail
  generalize w6.setCell ⟨g, 7, none⟩ (.int .u8 u) = w7 at HD7 HB7 hz7 ⊢
  refine (dcrash_any HD7.out (fun k hk => by show (b ≤ k ∧ k ≠ pp) ∧ k ≠ g; omega) (by omega) (by show D4.loose.length ≤ _; omega) none 0 0 [] (Sl.nil_ _ _) (fun h => absurd h (by omega))).mono ?_
  rintro e w8 ⟨rfl, hD8, hF8⟩
  have hbb8 := HB7.out.trans (hF8.below (B := b) (by omega) (fun k hk => by show ¬ ((b ≤ k ∧ k ≠ pp) ∧ k ≠ g); omega))
  have hz8 := hF8.size
  have hg8 : (D4.count.crash []).good = [l] := (crashed_none D4.good D4.loose).trans HG.out
  have hL8 : (D4.count.crash []).look 0 = l := by
    show lookIn [] 0 ((D4.count.crash []).good.getD 0 []) = l
    rw [hg8]; rfl
  have hlo8 : (D4.count.crash []).loose.length ≤ 1 := Nat.zero_le _
  have hC8 : (D4.count.crash []).calls ≤ 2 := by show D4.calls + 1 ≤ 2; omega
  have hS8 : (D4.count.crash []).size = 512 := hS4
  have hf8 : (D4.count.crash []).fails = -1 := rfl
  generalize D4.count.crash [] = D8 at hD8 hg8 hL8 hlo8 hC8 hS8 hf8
  clear hF8 HD7 HB7
  go_wp2_with fail
  refine (dread_any hD8 (fun k hk => by show (b ≤ k ∧ k ≠ pp) ∧ k ≠ g; omega) (by omega) (by omega) (by omega) (0 : Int)).mono ?_
  rintro e w9 hP
  obtain ⟨g9, cg9, rfl, hcg9, hM9, hF9⟩ : ∃ g' c, e = .returned (.tuple #[.slice (some ⟨g', 0, none⟩) 512 c, .int .i64 0]) ∧ 512 ≤ c ∧ MB w9 g' l ∧ Fr (fun k => (b ≤ k ∧ k ≠ pp) ∧ k ≠ g) w8 w9 := by
    rcases hP with ⟨h, _⟩ | ⟨_, h, _⟩ | ⟨_, _, g, c, h1, h2, h3, h4, _, h5, h6⟩
    · exact absurd (show (0 : Int) ≤ 0 ∧ (0 : Int) < (D8.good.length : Int) by rw [hg8]; exact ⟨Int.le_refl _, Int.zero_lt_one⟩) h
    · exact absurd h (by rw [hf8]; omega)
    · rw [hS8] at h1 h2
      rw [Int.toNat_zero, hL8] at h4
      exact ⟨g, c, h1, h2, h4, h6⟩
  have hbb9 := hbb8.trans (hF9.below (B := b) (by omega) (fun k hk => by show ¬ ((b ≤ k ∧ k ≠ pp) ∧ k ≠ g); omega))
  have hm9 := (hM9.2 7 y HY.out).1
  clear hP hD8 hF9 hM9 hL8 hg8
  go_wp2_with fail
  go_ret
  exact ⟨rfl, hbb9⟩
end Go.Proofs.Ythijobbhpbklmaa
