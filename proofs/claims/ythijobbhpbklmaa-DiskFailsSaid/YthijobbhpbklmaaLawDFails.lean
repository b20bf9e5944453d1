/- DiskFails. -/
import Derived.Test.YthijobbhpbklmaaDAwake
namespace Go.Proofs.Ythijobbhpbklmaa
open Go.RowKit
set_option linter.unusedVariables false
set_option linter.unusedSimpArgs false

/-- The disk behind j calls of the script. -/
structure FSt (D : Dk) (j k l : Nat) : Prop where
  sz : D.size = 512
  lm : D.limit = 90
  g1 : 2 ≤ D.good.length
  g2 : D.good.length ≤ 2 + j
  lo : D.loose.length = l
  l1 : l ≤ j
  ca : D.calls = j + 1
  fa : D.fails = if j ≤ k then (k : Int) - (j : Int) else -1
theorem FSt.fails0 {D : Dk} {j k l : Nat} (h : FSt D j k l) : D.fails = 0 ↔ j = k := by
  rw [h.fa]
  split <;> omega
theorem FSt.count {D : Dk} {j k l : Nat} (h : FSt D j k l) : FSt D.count (j + 1) k l :=
  ⟨h.sz, h.lm, h.g1, by have := h.g2; show D.good.length ≤ _; omega, h.lo, by have := h.l1; omega, by show D.calls + 1 = _; rw [h.ca], by
    show (if D.fails = -1 then -1 else D.fails - 1) = _
    rw [h.fa]
    by_cases h1 : j ≤ k
    · rw [if_pos h1, if_neg (by omega)]
      split <;> omega
    · rw [if_neg h1, if_pos rfl, if_neg (by omega)]⟩
theorem FSt.sync {D : Dk} {j k l : Nat} (h : FSt D j k l) : FSt D.count.synced (j + 1) k 0 := by
  have hc := h.count
  exact ⟨hc.sz, hc.lm, by show 2 ≤ (laid _ _).length; rw [laid_length]; exact hc.g1, by show (laid _ _).length ≤ _; rw [laid_length]; exact hc.g2, rfl, Nat.zero_le _, hc.ca, hc.fa⟩
theorem FSt.grow {D : Dk} {j k l G : Nat} (h : FSt D j k l) (hG : D.good.length = G) : FSt (D.count.grown (G + 1)) (j + 1) k l ∧ (D.count.grown (G + 1)).good.length = G + 1 := by
  have hc := h.count
  have hl : (D.count.grown (G + 1)).good.length = G + 1 := by
    show (D.good ++ List.replicate (G + 1 - D.good.length) _).length = _
    rw [List.length_append, List.length_replicate, hG]; omega
  have h1 := h.g1
  have h2 := h.g2
  exact ⟨⟨hc.sz, hc.lm, by rw [hl]; omega, by rw [hl]; omega, hc.lo, hc.l1, hc.ca, hc.fa⟩, hl⟩
theorem FSt.write {D : Dk} {j k l : Nat} (h : FSt D j k l) (i : Nat) (b : List UInt8) : FSt (D.count.written i b) (j + 1) k (l + 1) := by
  have hc := h.count
  exact ⟨hc.sz, hc.lm, hc.g1, hc.g2, by show (D.loose ++ [(i, b)]).length = _; rw [List.length_append, h.lo]; rfl, by have := h.l1; omega, hc.ca, hc.fa⟩
theorem and3 (k : Nat) (h : k ≤ 255) : bits BinOp.and IntKind.u8 (k : Int) 3 = 0 ∨ bits BinOp.and IntKind.u8 (k : Int) 3 = 1 ∨ bits BinOp.and IntKind.u8 (k : Int) 3 = 2 ∨ bits BinOp.and IntKind.u8 (k : Int) 3 = 3 := by
  have e : bits BinOp.and IntKind.u8 (k : Int) 3 = ((k &&& 3 : Nat) : Int) := u8_and_nat k 3 (by omega) (by omega)
  rw [e, show (3 : Nat) = 2 ^ 2 - 1 by rfl, Nat.and_two_pow_sub_one_eq_mod]
  omega
theorem DiskAt.wide {w : World} {base p : Nat} {ok ok' : Nat → Prop} {D : Dk} (h : DiskAt w base ok p D) (hk : ∀ k, ok k → ok' k) : DiskAt w base ok' p D := h.other fun k _ ho => ⟨rfl, hk k ho⟩

set_option maxRecDepth 100000 in
set_option maxHeartbeats 1000000 in
theorem diskFails_law (w : World) (a : Nat) (ha : a < 256) (A : Option Addr) (n c : Nat) (bs : List UInt8) (hbs : Sl w w.heap.size A n c bs) :
    Calls Try.prog 6 #[.int .u8 (a : Int), .slice A n c] w fun e w' => e = .returned (.bool true) ∧ Below w.heap.size w w' := by
  have haw := awake03 w
  obtain ⟨b, hb⟩ : ∃ b, w.heap.size = b := ⟨_, rfl⟩
  rw [hb] at haw hbs ⊢
  by_cases hn : 40 < n
  · have d0 : decide (40 < n) = true := decide_eq_true hn
    have d0' : decide ((40 : Int) < (n : Int)) = true := decide_eq_true (by omega)
    go_enter Try.func6, Try.ntmps6
    go_wp2_with fail
    refine haw.mono ?_
    rintro e w1 ⟨rfl, hb1⟩
    go_wp2_with fail
    go_ret
    exact ⟨rfl, hb1⟩
  have d0 : decide (40 < n) = false := decide_eq_false hn
  have d0' : decide ((40 : Int) < (n : Int)) = false := decide_eq_false (by omega)
  have htm : (a : Int).tmod 30 = ((a % 30 : Nat) : Int) := by rw [Int.tmod_eq_emod_of_nonneg (by omega)]; rfl
  obtain ⟨k, hk⟩ : ∃ k, a % 30 = k := ⟨_, rfl⟩
  have hk30 : k < 30 := by omega
  rw [hk] at htm
  clear hk
  go_enter Try.func6, Try.ntmps6
  go_wp2_with fail
  refine haw.mono ?_
  rintro e w1 ⟨rfl, hb1⟩
  have hz1 := hb1.size
  rw [hb] at hz1
  go_wp2_with fail
  refine (dnew_is w1 512 90 (by unfold NewOk; omega) b (fun k => b ≤ k) hz1 hz1).mono ?_
  rintro e w2 ⟨rfl, hD2, hb2⟩
  have hz2 := hb2.size
  have hbb2 := hb1.trans (hb2.mono hz1)
  clear hb2 hb1 haw
  generalize w1.heap.size = p at hD2 hz1 hz2 ⊢
  go_wp2_with fail
  refine (dgrow_any hD2 (fun k hk => by show b ≤ k; omega) (by omega) (by decide) 2 (by omega)).mono ?_
  rintro e w3 hG
  obtain ⟨rfl, hD3, hF3⟩ : e = .returned (.int .i64 0) ∧ DiskAt w3 b (fun k => b ≤ k) p ((dNew 512 90).count.grown 2) ∧ Fr (fun k => b ≤ k) w2 w3 := by
    rcases hG with ⟨h, _⟩ | ⟨_, h, _⟩ | ⟨_, _, h, _⟩ | ⟨_, _, _, h1, h2, h3⟩
    · exact absurd h (by decide)
    · exact absurd h (by decide)
    · exact absurd h (by decide)
    · exact ⟨h1, h2, h3⟩
  have hbb3 := hbb2.trans (hF3.below (by omega) (fun k hk => by show ¬ b ≤ k; omega))
  have hz3 := hF3.size
  clear hG hD2 hF3 hbb2
  go_wp2_with fail
  refine (dfail_any hD3 (k : Int) (by omega)).mono ?_
  rintro e w4 ⟨rfl, hD4, hA4⟩
  have hbb4 := hbb3.trans (hA4.below (by omega) (by omega))
  have hz4 := hA4.size
  have hS4 : FSt (((dNew 512 90).count.grown 2).failed (k : Int)) 0 k 0 := ⟨rfl, rfl, by show 2 ≤ ((dNew 512 90).count.grown 2).good.length; decide, by show ((dNew 512 90).count.grown 2).good.length ≤ 2 + 0; decide, rfl, Nat.le_refl _, rfl, by
    show (if (k : Int) < -1 then -1 else (k : Int)) = _
    rw [if_neg (by omega), if_pos (by omega)]
    omega⟩
  generalize (((dNew 512 90).count.grown 2).failed (k : Int)) = D4 at hD4 hS4
  clear hD3 hA4 hbb3
  have hlen := hbs.len
  have HBS := Lib.hid hbs
  clear hbs
  go_wp2_with fail
  go_loopw [9, 10] (fun lo i wr => ∃ (j l : Nat) (D : Dk), j ≤ n ∧ i = .int .i64 (j : Int) ∧ lo = .int .i64 (l : Int) ∧ FSt D j k l ∧ DiskAt wr b (fun k => b ≤ k) p D ∧ Below b w wr) (fun _ i _ => n - (intOf i).toNat)
  case atStart => exact ⟨0, 0, D4, Nat.zero_le _, rfl, rfl, hS4, hD4, hbb4⟩
  case round =>
    obtain ⟨j, l, D, hj, rfl, rfl, hS, hD, hbw⟩ := hrel
    have hbs := hbw.size
    rw [hb] at hbs
    have hpz := hD
    by_cases hlt : j < n
    · have hj40 : j < 40 := by omega
      obtain ⟨ad, x, rfl, hx, hxc⟩ : ∃ ad x, A = some ad ∧ bs[j]? = some x ∧ wr.cell? (ad.add j) = some (.int .u8 (x.toNat : Int)) := by
        obtain ⟨ad, u, ea, hb', hu, hc⟩ := (HBS.out.below hbw).reads.at_ hlt
        simp only [bv, List.getElem?_map, Option.map_eq_some_iff] at hu
        obtain ⟨q, hq, rfl⟩ := hu
        exact ⟨ad, q, ea, hq, hc⟩
      obtain ⟨G, hG⟩ : ∃ G, D.good.length = G := ⟨_, rfl⟩
      have hln := dlen_any hD
      rw [hG] at hln
      have hG1 := hS.g1
      have hG2 := hS.g2
      rw [hG] at hG1 hG2
      have hcl : D.calls < 1000000000 := by rw [hS.ca]; omega
      have hll : D.loose.length ≤ 1000000000 := by rw [hS.lo]; have := hS.l1; omega
      have hlj := hS.l1
      have hf0 := hS.fails0
      have hx2 := x.toNat_lt
      have HS := Lib.hid hS
      have HG := Lib.hid hG
      clear hS hG hx hpz
      by_cases hjk : j = k
      · have e1 : ((j : Int) == (k : Int)) = true := by simp [hjk]
        have e2 : (j == k) = true := by simp [hjk]
        have e3 : ((j : Int) != (k : Int)) = false := by simp [hjk]
        have e4 : (j != k) = false := by simp [hjk]
        have HF := Lib.hid (hf0.2 hjk)
        have HJK := Lib.hid hjk
        clear hf0 hjk
        rcases and3 x.toNat (by omega) with hq | hq | hq | hq
        · go_wp2_with fail
          refine hln.mono ?_
          rintro e w' ⟨rfl, rfl⟩
          clear hln
          go_wp2_with fail
          refine (dsync_any hD (by omega) hcl hll).mono ?_
          rintro e w5 hP
          obtain ⟨rfl, hD5, hF5⟩ : e = .returned (.int .i64 20) ∧ DiskAt w5 b (fun k => b ≤ k) p D.count ∧ Fr (fun k => b ≤ k) wr w5 := by
            rcases hP with ⟨h, h1, h2, h3⟩ | ⟨h, h1, h2, h3⟩
            · exact ⟨h1, h2, h3⟩
            · exact absurd HF.out h
          have hS5 := HS.out.count
          have hbb5 := hbw.trans (hF5.below (by omega) (fun k hk => by show ¬ b ≤ k; omega))
          have hlo := dloose_any hD5
          rw [hS5.lo] at hlo
          have hca := dcalls_any hD5
          rw [hS5.ca] at hca
          have HD5 := Lib.hid hD5
          have HS5 := Lib.hid hS5
          clear hD5 hS5 hF5 hP hD HF
          go_wp2_with (first | (go_at_call 26; refine hlo.mono ?_; rintro e w' ⟨rfl, rfl⟩) | (go_at_call 20; refine hca.mono ?_; rintro e w' ⟨rfl, rfl⟩))
          exact ⟨⟨j + 1, l, _, by omega, by go_num, by go_num, HS5.out, HD5.out, hbb5⟩, by simp [intOf]; omega⟩
        · go_wp2_with fail
          refine hln.mono ?_
          rintro e w' ⟨rfl, rfl⟩
          clear hln
          go_wp2_with fail
          refine (dgrow_any hD (fun k hk => by show b ≤ k; omega) (by omega) hcl ((G : Int) + 1) (by omega)).mono ?_
          rintro e w5 hP
          obtain ⟨rfl, hD5, hF5⟩ : e = .returned (.int .i64 20) ∧ DiskAt w5 b (fun k => b ≤ k) p D.count ∧ Fr (fun k => b ≤ k) wr w5 := by
            rcases hP with ⟨h, _⟩ | ⟨_, h, _⟩ | ⟨_, _, h, h1, h2, h3⟩ | ⟨_, _, h, h1, h2, h3⟩
            · exact absurd h (by rw [HG.out]; omega)
            · exact absurd h (by rw [HS.out.lm]; omega)
            · exact ⟨h1, h2, h3⟩
            · exact absurd HF.out h
          have hS5 := HS.out.count
          have hln := dlen_any hD5
          rw [show D.count.good.length = G from HG.out] at hln
          have hbb5 := hbw.trans (hF5.below (by omega) (fun k hk => by show ¬ b ≤ k; omega))
          have hlo := dloose_any hD5
          rw [hS5.lo] at hlo
          have hca := dcalls_any hD5
          rw [hS5.ca] at hca
          have HD5 := Lib.hid hD5
          have HS5 := Lib.hid hS5
          clear hD5 hS5 hF5 hP hD HF
          go_wp2_with (first | (go_at_call 19; refine hln.mono ?_; rintro e w' ⟨rfl, rfl⟩) | (go_at_call 26; refine hlo.mono ?_; rintro e w' ⟨rfl, rfl⟩) | (go_at_call 20; refine hca.mono ?_; rintro e w' ⟨rfl, rfl⟩))
          exact ⟨⟨j + 1, l, _, by omega, by go_num, by go_num, HS5.out, HD5.out, hbb5⟩, by simp [intOf]; omega⟩
        · go_wp2_with fail
          refine hln.mono ?_
          rintro e w' ⟨rfl, rfl⟩
          clear hln
          go_wp2_with fail
          refine (dread_any hD (fun k hk => by show b ≤ k; omega) (by omega) hcl hll 1).mono ?_
          rintro e w5 hP
          obtain ⟨rfl, hD5, hF5⟩ : e = .returned (.tuple #[.slice none 0 0, .int .i64 20]) ∧ DiskAt w5 b (fun k => b ≤ k) p D.count ∧ Fr (fun k => b ≤ k) wr w5 := by
            rcases hP with ⟨h, _⟩ | ⟨_, h, h1, h2, h3⟩ | ⟨_, h, _⟩
            · exact absurd (show 0 ≤ (1 : Int) ∧ (1 : Int) < (D.good.length : Int) by rw [HG.out]; omega) h
            · exact ⟨h1, h2, h3⟩
            · exact absurd HF.out h
          have hS5 := HS.out.count
          have hbb5 := hbw.trans (hF5.below (by omega) (fun k hk => by show ¬ b ≤ k; omega))
          have hlo := dloose_any hD5
          rw [hS5.lo] at hlo
          have hca := dcalls_any hD5
          rw [hS5.ca] at hca
          have HD5 := Lib.hid hD5
          have HS5 := Lib.hid hS5
          clear hD5 hS5 hF5 hP hD HF
          go_wp2_with (first | (go_at_call 26; refine hlo.mono ?_; rintro e w' ⟨rfl, rfl⟩) | (go_at_call 20; refine hca.mono ?_; rintro e w' ⟨rfl, rfl⟩))
          exact ⟨⟨j + 1, l, _, by omega, by go_num, by go_num, HS5.out, HD5.out, hbb5⟩, by simp [intOf]; omega⟩
        · go_wp2_with fail
          refine hln.mono ?_
          rintro e w' ⟨rfl, rfl⟩
          clear hln
          go_wp2_with fail
          refine (full_is wr 512 (by omega) (by omega) b _ _ _ _ (HBS.out.below hbw) hbs (by omega) (by omega)).mono ?_
          rintro e w6 ⟨rfl, hr6, hb6⟩
          have hD6 := hD.below hb6
          have hz6 := hb6.size
          have hbw6 := hbw.trans (hb6.mono hbs)
          obtain ⟨f6, hf6⟩ : ∃ f6, wr.heap.size = f6 := ⟨_, rfl⟩
          rw [hf6] at hr6 hz6 hbs ⊢
          have hfp : f6 ≠ p := by
            obtain ⟨_, _, _, _, hDA⟩ := hD
            have := hDA.blk.lt
            omega
          clear hf6 hD hbw
          have hbw := hbw6
          have hD := hD6
          go_wp2_with fail
          refine (dwrite_any hD (fun k hk => by show b ≤ k; omega) (by omega) hcl hll 0 _ _ _ _ _ (hr6.slN (n := 512) (fullB_length _ _) (by omega)) (fun ad e => by
            injection e with e
            subst e
            exact ⟨hfp, hr6.lt⟩) (by omega)).mono ?_
          rintro e w5 hP
          obtain ⟨rfl, hD5, hF5⟩ : e = .returned (.int .i64 20) ∧ DiskAt w5 b (fun k => b ≤ k) p D.count ∧ Fr (fun k => b ≤ k) w6 w5 := by
            rcases hP with ⟨h, _⟩ | ⟨_, h, _⟩ | ⟨_, _, h, h1, h2, h3⟩ | ⟨_, _, h, h1, h2, h3⟩
            · exact absurd (show 0 ≤ (0 : Int) ∧ (0 : Int) < (D.good.length : Int) by rw [HG.out]; omega) h
            · exact absurd (show (fullB 512 bs).length = D.size by rw [fullB_length, HS.out.sz]) h
            · exact ⟨h1, h2, h3⟩
            · exact absurd HF.out h
          have hS5 := HS.out.count
          have hbb5 := hbw.trans (hF5.below (by omega) (fun k hk => by show ¬ b ≤ k; omega))
          have hlo := dloose_any hD5
          rw [hS5.lo] at hlo
          have hca := dcalls_any hD5
          rw [hS5.ca] at hca
          have HD5 := Lib.hid hD5
          have HS5 := Lib.hid hS5
          clear hD5 hS5 hF5 hP hD HF
          go_wp2_with (first | (go_at_call 26; refine hlo.mono ?_; rintro e w' ⟨rfl, rfl⟩) | (go_at_call 20; refine hca.mono ?_; rintro e w' ⟨rfl, rfl⟩))
          exact ⟨⟨j + 1, l, _, by omega, by go_num, by go_num, HS5.out, HD5.out, hbb5⟩, by simp [intOf]; omega⟩
      · have e1 : ((j : Int) == (k : Int)) = false := by simp; omega
        have e2 : (j == k) = false := by simp [hjk]
        have e3 : ((j : Int) != (k : Int)) = true := by simp; omega
        have e4 : (j != k) = true := by simp [hjk]
        have HF := Lib.hid (fun h => hjk (hf0.1 h))
        have HJK := Lib.hid hjk
        clear hf0 hjk
        rcases and3 x.toNat (by omega) with hq | hq | hq | hq
        · go_wp2_with fail
          refine hln.mono ?_
          rintro e w' ⟨rfl, rfl⟩
          clear hln
          go_wp2_with fail
          refine (dsync_any hD (by omega) hcl hll).mono ?_
          rintro e w5 hP
          obtain ⟨rfl, hD5, hF5⟩ : e = .returned (.int .i64 0) ∧ DiskAt w5 b (fun k => b ≤ k) p D.count.synced ∧ Fr (fun k => b ≤ k) wr w5 := by
            rcases hP with ⟨h, h1, h2, h3⟩ | ⟨h, h1, h2, h3⟩
            · exact absurd h HF.out
            · exact ⟨h1, h2, h3⟩
          have hS5 := HS.out.sync
          have hbb5 := hbw.trans (hF5.below (by omega) (fun k hk => by show ¬ b ≤ k; omega))
          have hlo := dloose_any hD5
          rw [hS5.lo] at hlo
          have hca := dcalls_any hD5
          rw [hS5.ca] at hca
          have HD5 := Lib.hid hD5
          have HS5 := Lib.hid hS5
          clear hD5 hS5 hF5 hP hD HF
          go_wp2_with (first | (go_at_call 26; refine hlo.mono ?_; rintro e w' ⟨rfl, rfl⟩) | (go_at_call 20; refine hca.mono ?_; rintro e w' ⟨rfl, rfl⟩))
          exact ⟨⟨j + 1, 0, _, by omega, by go_num, by go_num, HS5.out, HD5.out, hbb5⟩, by simp [intOf]; omega⟩
        · go_wp2_with fail
          refine hln.mono ?_
          rintro e w' ⟨rfl, rfl⟩
          clear hln
          go_wp2_with fail
          refine (dgrow_any hD (fun k hk => by show b ≤ k; omega) (by omega) hcl ((G : Int) + 1) (by omega)).mono ?_
          rintro e w5 hP
          obtain ⟨rfl, hD5, hF5⟩ : e = .returned (.int .i64 0) ∧ DiskAt w5 b (fun k => b ≤ k) p (D.count.grown (G + 1)) ∧ Fr (fun k => b ≤ k) wr w5 := by
            rcases hP with ⟨h, _⟩ | ⟨_, h, _⟩ | ⟨_, _, h, h1, h2, h3⟩ | ⟨_, _, h, h1, h2, h3⟩
            · exact absurd h (by rw [HG.out]; omega)
            · exact absurd h (by rw [HS.out.lm]; omega)
            · exact absurd h HF.out
            · exact ⟨h1, by rw [show ((G : Int) + 1).toNat = G + 1 by omega] at h2; exact h2, h3⟩
          have hS5 := (HS.out.grow HG.out).1
          have hln := dlen_any hD5
          rw [show (D.count.grown (G + 1)).good.length = G + 1 from (HS.out.grow HG.out).2] at hln
          have hbb5 := hbw.trans (hF5.below (by omega) (fun k hk => by show ¬ b ≤ k; omega))
          have hlo := dloose_any hD5
          rw [hS5.lo] at hlo
          have hca := dcalls_any hD5
          rw [hS5.ca] at hca
          have HD5 := Lib.hid hD5
          have HS5 := Lib.hid hS5
          clear hD5 hS5 hF5 hP hD HF
          go_wp2_with (first | (go_at_call 19; refine hln.mono ?_; rintro e w' ⟨rfl, rfl⟩) | (go_at_call 26; refine hlo.mono ?_; rintro e w' ⟨rfl, rfl⟩) | (go_at_call 20; refine hca.mono ?_; rintro e w' ⟨rfl, rfl⟩))
          exact ⟨⟨j + 1, l, _, by omega, by go_num, by go_num, HS5.out, HD5.out, hbb5⟩, by simp [intOf]; omega⟩
        · go_wp2_with fail
          refine hln.mono ?_
          rintro e w' ⟨rfl, rfl⟩
          clear hln
          go_wp2_with fail
          refine (dread_any hD (fun k hk => by show b ≤ k; omega) (by omega) hcl hll 1).mono ?_
          rintro e w5 hP
          obtain ⟨g5, c5, rfl, hD5, hF5⟩ : ∃ g c, e = .returned (.tuple #[.slice (some ⟨g, 0, none⟩) D.size c, .int .i64 0]) ∧ DiskAt w5 b (fun k => b ≤ k) p D.count ∧ Fr (fun k => b ≤ k) wr w5 := by
            rcases hP with ⟨h, _⟩ | ⟨_, h, _⟩ | ⟨_, _, g, c, h1, _, _, _, _, h2, h3⟩
            · exact absurd (show 0 ≤ (1 : Int) ∧ (1 : Int) < (D.good.length : Int) by rw [HG.out]; omega) h
            · exact absurd h HF.out
            · exact ⟨g, c, h1, h2.wide (fun k h => h.1), h3⟩
          have hS5 := HS.out.count
          have hbb5 := hbw.trans (hF5.below (by omega) (fun k hk => by show ¬ b ≤ k; omega))
          have hlo := dloose_any hD5
          rw [hS5.lo] at hlo
          have hca := dcalls_any hD5
          rw [hS5.ca] at hca
          have HD5 := Lib.hid hD5
          have HS5 := Lib.hid hS5
          clear hD5 hS5 hF5 hP hD HF
          go_wp2_with (first | (go_at_call 26; refine hlo.mono ?_; rintro e w' ⟨rfl, rfl⟩) | (go_at_call 20; refine hca.mono ?_; rintro e w' ⟨rfl, rfl⟩))
          exact ⟨⟨j + 1, l, _, by omega, by go_num, by go_num, HS5.out, HD5.out, hbb5⟩, by simp [intOf]; omega⟩
        · go_wp2_with fail
          refine hln.mono ?_
          rintro e w' ⟨rfl, rfl⟩
          clear hln
          go_wp2_with fail
          refine (full_is wr 512 (by omega) (by omega) b _ _ _ _ (HBS.out.below hbw) hbs (by omega) (by omega)).mono ?_
          rintro e w6 ⟨rfl, hr6, hb6⟩
          have hD6 := hD.below hb6
          have hz6 := hb6.size
          have hbw6 := hbw.trans (hb6.mono hbs)
          obtain ⟨f6, hf6⟩ : ∃ f6, wr.heap.size = f6 := ⟨_, rfl⟩
          rw [hf6] at hr6 hz6 hbs ⊢
          have hfp : f6 ≠ p := by
            obtain ⟨_, _, _, _, hDA⟩ := hD
            have := hDA.blk.lt
            omega
          clear hf6 hD hbw
          have hbw := hbw6
          have hD := hD6
          go_wp2_with fail
          refine (dwrite_any hD (fun k hk => by show b ≤ k; omega) (by omega) hcl hll 0 _ _ _ _ _ (hr6.slN (n := 512) (fullB_length _ _) (by omega)) (fun ad e => by
            injection e with e
            subst e
            exact ⟨hfp, hr6.lt⟩) (by omega)).mono ?_
          rintro e w5 hP
          obtain ⟨rfl, hD5, hF5⟩ : e = .returned (.int .i64 0) ∧ DiskAt w5 b (fun k => b ≤ k) p (D.count.written 0 (fullB 512 bs)) ∧ Fr (fun k => b ≤ k) w6 w5 := by
            rcases hP with ⟨h, _⟩ | ⟨_, h, _⟩ | ⟨_, _, h, h1, h2, h3⟩ | ⟨_, _, h, h1, h2, h3⟩
            · exact absurd (show 0 ≤ (0 : Int) ∧ (0 : Int) < (D.good.length : Int) by rw [HG.out]; omega) h
            · exact absurd (show (fullB 512 bs).length = D.size by rw [fullB_length, HS.out.sz]) h
            · exact absurd h HF.out
            · exact ⟨h1, h2, h3⟩
          have hS5 := HS.out.write 0 (fullB 512 bs)
          have hbb5 := hbw.trans (hF5.below (by omega) (fun k hk => by show ¬ b ≤ k; omega))
          have hlo := dloose_any hD5
          rw [hS5.lo] at hlo
          have hca := dcalls_any hD5
          rw [hS5.ca] at hca
          have HD5 := Lib.hid hD5
          have HS5 := Lib.hid hS5
          clear hD5 hS5 hF5 hP hD HF
          go_wp2_with (first | (go_at_call 26; refine hlo.mono ?_; rintro e w' ⟨rfl, rfl⟩) | (go_at_call 20; refine hca.mono ?_; rintro e w' ⟨rfl, rfl⟩))
          exact ⟨⟨j + 1, l + 1, _, by omega, by go_num, by go_num, HS5.out, HD5.out, hbb5⟩, by simp [intOf]; omega⟩
    · obtain rfl : j = n := by omega
      clear hpz
      go_wp2_with fail
      go_ret
      exact ⟨rfl, hbw⟩
end Go.Proofs.Ythijobbhpbklmaa
