/- DiskSectors. -/
import Derived.Test.YthijobbhpbklmaaDSecQ
import Derived.BigQuiet
namespace Go.Proofs.Ythijobbhpbklmaa
open Go.RowKit
set_option linter.unusedVariables false
set_option linter.unusedSimpArgs false

theorem DiskAt.wide {w : World} {base p : Nat} {ok ok' : Nat → Prop} {D : Dk} (h : DiskAt w base ok p D) (hk : ∀ k, ok k → ok' k) : DiskAt w base ok' p D := h.other fun k _ ho => ⟨rfl, hk k ho⟩
theorem RowB.fr {w w' : World} {g : Nat} {l : List UInt8} {ok : Nat → Prop} (h : RowB w g l) (hF : Fr ok w w') (hg : ¬ ok g) : RowB w' g l := (hF.2.2.2.2 g h.lt hg).trans h
theorem DiskAt.wf {w : World} {base p : Nat} {ok : Nat → Prop} {D : Dk} (h : DiskAt w base ok p D) : D.OK := by
  obtain ⟨_, _, _, _, h⟩ := h
  exact h.wf
theorem DiskAt.bp {w : World} {base p : Nat} {ok : Nat → Prop} {D : Dk} (h : DiskAt w base ok p D) : p < w.heap.size ∧ ok p := by
  obtain ⟨_, _, _, _, h⟩ := h
  exact ⟨h.blk.lt, h.okp⟩
theorem DiskAt.setOther {w : World} {base p : Nat} {ok : Nat → Prop} {D : Dk} (h : DiskAt w base ok p D) {g : Nat} (hg : ¬ ok g) (i : Nat) (u : Value) : DiskAt (w.setCell ⟨g, i, none⟩ u) base ok p D :=
  h.other fun k _ ho => ⟨Below.heap_setCell _ _ _ _ (fun e => hg (by have e : k = g := e; rw [← e]; exact ho)), ho⟩
theorem Sl.byte {w : World} {B : Nat} {A : Option Addr} {n c : Nat} {l : List UInt8} (h : Sl w B A n c l) {j : Nat} (hj : j < n) : ∃ ad x, A = some ad ∧ ad.block < B ∧ l[j]? = some x ∧ w.cell? (ad.add j) = some (.int .u8 (x.toNat : Int)) := by
  obtain ⟨ad, u, ea, hb, hu, hc⟩ := h.reads.at_ hj
  simp only [bv, List.getElem?_map, Option.map_eq_some_iff] at hu
  obtain ⟨q, hq, rfl⟩ := hu
  exact ⟨ad, q, ea, hb, hq, hc⟩
theorem lit_small (j : Nat) (hj : j < 256) : (#[.int .u8 (j : Int)] : Array Value) = (bv [UInt8.ofNat j]).toArray := by
  simp [bv, Nat.mod_eq_of_lt hj]
theorem small_val (j : Nat) (hj : j < 256) : (Value.int .u8 (j : Int)) = .int .u8 ((UInt8.ofNat j).toNat : Int) := by
  simp [Nat.mod_eq_of_lt hj]

set_option maxRecDepth 100000 in
set_option maxHeartbeats 1000000 in
theorem diskSectors_early (w : World) (A0 A1 A2 : Option Addr) (n0 c0 n1 c1 n2 c2 : Nat) (h : n0 = 0 ∨ 6 < n0 ∨ 20 < n1) :
    Calls Try.prog 4 #[.slice A0 n0 c0, .slice A1 n1 c1, .slice A2 n2 c2] w fun e w' => e = .returned (.bool true) ∧ Below w.heap.size w w' := by
  have haw := awake03 w
  by_cases h0 : n0 = 0
  · subst h0
    go_enter Try.func4, Try.ntmps4
    go_wp2_with fail
    refine haw.mono ?_
    rintro e w1 ⟨rfl, hb1⟩
    go_wp2_with fail
    go_ret
    exact ⟨rfl, hb1⟩
  have d0 : ((n0 : Int) == 0) = false := by simp [h0]
  have d0n : (n0 == 0) = false := by simp [h0]
  by_cases h1 : 6 < n0
  · have d1 : decide (6 < n0) = true := decide_eq_true h1
    have d1' : decide ((6 : Int) < (n0 : Int)) = true := decide_eq_true (by omega)
    clear h
    go_enter Try.func4, Try.ntmps4
    go_wp2_with fail
    refine haw.mono ?_
    rintro e w1 ⟨rfl, hb1⟩
    go_wp2_with fail
    go_ret
    exact ⟨rfl, hb1⟩
  have d1 : decide (6 < n0) = false := decide_eq_false h1
  have d1' : decide ((6 : Int) < (n0 : Int)) = false := decide_eq_false (by omega)
  have h2 : 20 < n1 := by omega
  have d2 : decide (20 < n1) = true := decide_eq_true h2
  have d2' : decide ((20 : Int) < (n1 : Int)) = true := decide_eq_true (by omega)
  clear h
  go_enter Try.func4, Try.ntmps4
  go_wp2_with fail
  refine haw.mono ?_
  rintro e w1 ⟨rfl, hb1⟩
  go_wp2_with fail
  go_ret
  exact ⟨rfl, hb1⟩

set_option maxRecDepth 100000 in
set_option maxHeartbeats 2000000 in
theorem diskSectors_law (w : World) (A0 A1 A2 : Option Addr) (n c0 n1 c1 n2 c2 : Nat) (fs ls ps : List UInt8) (s0 : Sl w w.heap.size A0 n c0 fs) (s1 : Sl w w.heap.size A1 n1 c1 ls) (s2 : Sl w w.heap.size A2 n2 c2 ps) :
    Calls Try.prog 4 #[.slice A0 n c0, .slice A1 n1 c1, .slice A2 n2 c2] w fun e w' => e = .returned (.bool true) ∧ Below w.heap.size w w' := by
  by_cases hearly : n = 0 ∨ 6 < n ∨ 20 < n1
  · exact diskSectors_early w A0 A1 A2 n c0 n1 c1 n2 c2 hearly
  have haw := awake03 w
  have hn0 : 0 < n := by omega
  have hn6 : n ≤ 6 := by omega
  have hn20 : n1 ≤ 20 := by omega
  have d0 : ((n : Int) == 0) = false := by simp; omega
  have d0n : (n == 0) = false := by simp; omega
  have d1 : decide (6 < n) = false := decide_eq_false (by omega)
  have d1' : decide ((6 : Int) < (n : Int)) = false := decide_eq_false (by omega)
  have d2 : decide (20 < n1) = false := decide_eq_false (by omega)
  have d2' : decide ((20 : Int) < (n1 : Int)) = false := decide_eq_false (by omega)
  have hnz : ¬ (n : Int) = 0 := by omega
  clear hearly
  have S0 := Lib.hid s0
  have S1 := Lib.hid s1
  have S2 := Lib.hid s2
  have hpl := s2.len
  clear s0 s1 s2
  obtain ⟨b, hb⟩ : ∃ b, w.heap.size = b := ⟨_, rfl⟩
  rw [hb] at haw S0 S1 S2 ⊢
  go_enter Try.func4, Try.ntmps4
  go_wp2_with fail
  refine haw.mono ?_
  rintro e w1 ⟨rfl, hb1⟩
  have hz1 := hb1.size
  rw [hb] at hz1
  go_wp2_with fail
  refine (dnew_is w1 640 9 (by unfold NewOk; omega) b (fun k => b ≤ k) hz1 hz1).mono ?_
  rintro e w2 ⟨rfl, hD2, hb2⟩
  have hz2 := hb2.size
  have hbb2 := hb1.trans (hb2.mono hz1)
  clear hb2 hb1 haw
  generalize w1.heap.size = p at hD2 hz1 hz2 ⊢
  go_wp2_with fail
  refine (dgrow_any hD2 (fun k hk => by show b ≤ k; omega) (by omega) (by decide) (n : Int) (by omega)).mono ?_
  rintro e w3 hG
  obtain ⟨rfl, hD3, hF3⟩ : e = .returned (.int .i64 0) ∧ DiskAt w3 b (fun k => b ≤ k) p ((dNew 640 9).count.grown n) ∧ Fr (fun k => b ≤ k) w2 w3 := by
    rcases hG with ⟨h, _⟩ | ⟨_, h, _⟩ | ⟨_, _, h, _⟩ | ⟨_, _, _, h1, h2, h3⟩
    · exact absurd h (by show ¬ (n : Int) < ((0 : Nat) : Int); omega)
    · exact absurd h (by show ¬ ((9 : Nat) : Int) < (n : Int); omega)
    · exact absurd h (by decide)
    · exact ⟨h1, by simpa using h2, h3⟩
  have hbb3 := hbb2.trans (hF3.below (by omega) (fun k hk => by show ¬ b ≤ k; omega))
  have hz3 := hF3.size
  clear hG hD2 hF3 hbb2
  have hL3 := sst_start n fs
  generalize (dNew 640 9).count.grown n = D3 at hD3 hL3
  obtain ⟨N5, hN5⟩ : ∃ N5, 5 * n = N5 := ⟨_, rfl⟩
  have hm5 : (5 : Int) * (n : Int) = (N5 : Int) := by omega
  have hN30 : N5 ≤ 30 := by omega
  go_wp2_with (first | (at_make; refine wpList_make_bytesN _ rfl _ _ _ rfl Try.underlying30 info_u8 _ _ _ rfl rfl N5 rfl (by omega) ?_; intro w4 hr4 hb4))
  have hD4 : DiskAt w4 b (fun k => b ≤ k ∧ k ≠ w3.heap.size) p D3 := hD3.other fun k hk ho => ⟨hb4.block k hk, ho, by omega⟩
  have hz4 := hb4.size
  have hbb4 := hbb3.trans (hb4.mono (by omega))
  have hqz := hr4.lt
  have hW4 := swant_start fs n
  rw [hN5] at hW4
  clear hb4 hbb3 hD3
  generalize w3.heap.size = q at hr4 hD4 hz3 hz4 hqz ⊢
  clear hm5
  go_loopw [12] (fun i wr => ∃ (j : Nat) (D : Dk) (ws : List UInt8), j ≤ n ∧ i = .int .i64 (j : Int) ∧ RowB wr q ws ∧ SWant ws fs n (5 * j) ∧ SSt D n j fs ∧ DiskAt wr b (fun k => b ≤ k ∧ k ≠ q) p D ∧ Below b w wr) (fun i _ => n - (intOf i).toNat)
  case atStart => exact ⟨0, D3, _, Nat.zero_le _, rfl, hr4, hW4, hL3, hD4, hbb4⟩
  case round =>
    obtain ⟨wo, hwo⟩ : ∃ wo, wo = wr := ⟨_, rfl⟩
    subst hwo
    obtain ⟨j, D, ws, hj, rfl, hr, hW, hL, hD, hbw⟩ := hrel
    have hbs := hbw.size
    rw [hb] at hbs
    by_cases hlt : j < n
    · obtain ⟨ad0, x, rfl, hab0, hx, hxc⟩ := (S0.out.below hbw).byte (j := j) hlt
      have hx2 := x.toNat_lt
      have hqo : q < wo.heap.size := hr.lt
      have HX := Lib.hid hx
      have HL := Lib.hid hL
      have HR := Lib.hid hr
      have HW := Lib.hid hW
      have hcl : D.calls + 5 < 1000000000 := by have := hL.ca; omega
      have hlo : D.loose.length ≤ 1000000000 := by have := hL.lo; omega
      clear hx hL hr hW
      go_wp2_with fail
      have hsl := Sl.lit wo [x] #[.int .u8 (x.toNat : Int)] rfl 1 rfl (0, 0)
      have hb5 : Below b w (wo.alloc (.cells #[.int .u8 (x.toNat : Int)] 5)) := hbw.alloc hbs _
      have hD5 := hD.below ((Below.refl _ wo).alloc (Nat.le_refl _) (.cells #[.int .u8 (x.toNat : Int)] 5))
      have hR5 := HR.out.below ((Below.refl _ wo).alloc (Nat.le_refl _) (.cells #[.int .u8 (x.toNat : Int)] 5)) hqo
      have hz5 : wo.heap.size + 1 ≤ (wo.alloc (.cells #[.int .u8 (x.toNat : Int)] 5)).heap.size := by simp
      have hxc5 := ((Below.refl wo.heap.size wo).alloc (Nat.le_refl _) (.cells #[.int .u8 (x.toNat : Int)] 5)).cell (p := ad0.add j) (by rw [block_of_add]; omega)
      rw [hxc] at hxc5
      clear hD hxc hbw HR
      generalize wo.alloc (.cells #[.int .u8 (x.toNat : Int)] 5) = w5 at hsl hb5 hD5 hR5 hz5 hxc5 ⊢
      refine (full_is w5 640 (by omega) (by omega) _ _ 1 _ [x] hsl (by omega) (by omega) (by omega)).mono ?_
      rintro e w6 ⟨rfl, hr6, hb6⟩
      rw [fullB_one] at hr6
      have hz6 := hb6.size
      have hD6 := hD5.below hb6
      have hp6 := hD5.bp
      have hR6 := hR5.below hb6 (by omega)
      have hbb6 := hb5.trans (hb6.mono (by omega))
      have hxc6 := (hb6.cell (p := ad0.add j) (by rw [block_of_add]; omega)).trans hxc5
      clear hsl hD5 hR5 hxc5 hb5
      obtain ⟨f6, hf6⟩ : ∃ f6, w5.heap.size = f6 := ⟨_, rfl⟩
      rw [hf6] at hr6 hz6 hz5 hp6 ⊢
      clear hf6 hb6
      go_wp2_with fail
      refine (dwrite_any hD6 (fun k hk => by show b ≤ k ∧ k ≠ q; omega) (by omega) (by omega) hlo (j : Int) _ _ _ _ _ (hr6.slN (n := 640) (by rw [List.length_replicate]) (by omega)) (fun ad e => by
        injection e with e
        subst e
        exact ⟨by show f6 ≠ p; omega, hr6.lt⟩) (by omega)).mono ?_
      rintro e w7 hP
      obtain ⟨rfl, hD7, hF7⟩ : e = .returned (.int .i64 0) ∧ DiskAt w7 b (fun k => b ≤ k ∧ k ≠ q) p (D.count.written j (List.replicate 640 x)) ∧ Fr (fun k => b ≤ k ∧ k ≠ q) w6 w7 := by
        rcases hP with ⟨h, _⟩ | ⟨_, h, _⟩ | ⟨_, _, h, _⟩ | ⟨_, _, _, h1, h2, h3⟩
        · exact absurd (show 0 ≤ (j : Int) ∧ (j : Int) < (D.good.length : Int) by rw [HL.out.g]; omega) h
        · exact absurd (show (List.replicate 640 x).length = D.size by rw [List.length_replicate, HL.out.sz]) h
        · exact absurd h (by rw [HL.out.fa]; omega)
        · exact ⟨h1, h2, h3⟩
      have HL7 := Lib.hid (HL.out.write hlt HX.out)
      have hR7 := hR6.fr hF7 (fun h => h.2 rfl)
      have hbb67 := hF7.below (B := b) (by omega) (fun k hk => by show ¬ (b ≤ k ∧ k ≠ q); omega)
      have hbb7 := hbb6.trans hbb67
      have hxc7 := (hbb67.cell (p := ad0.add j) (by rw [block_of_add]; omega)).trans hxc6
      have hz7 := hF7.size
      generalize D.count.written j (List.replicate 640 x) = D7 at hD7 HL7
      clear hP hD6 hR6 hr6 hbb6 hxc6 hF7 hbb67
      go_wp2_with fail
      obtain ⟨J5, hJ5⟩ : ∃ J5, 5 * j = J5 := ⟨_, rfl⟩
      have hmj : (5 : Int) * (j : Int) = (J5 : Int) := by omega
      have HS0 := Lib.hid (show SWant ws fs n (5 * j + 0) from HW.out)
      clear HL HW hlo hcl hxc7
      go_loopw [13] (fun i wr => ∃ (t : Nat) (ws' : List UInt8), t ≤ 5 ∧ i = .int .i64 (t : Int) ∧ RowB wr q ws' ∧ SWant ws' fs n (5 * j + t) ∧ DiskAt wr b (fun k => b ≤ k ∧ k ≠ q) p D7 ∧ Below b w wr) (fun i _ => 5 - (intOf i).toNat)
      case atStart => exact ⟨0, _, Nat.zero_le _, rfl, hR7, HS0.out, hD7, hbb7⟩
      case round =>
        obtain ⟨t, ws', ht, rfl, hRi, hWi, hDi, hbi⟩ := hrel
        have hbis := hbi.size
        rw [hb] at hbis
        by_cases htl : t < 5
        · have d4 : decide (t < 5) = true := decide_eq_true htl
          have d4' : decide ((t : Int) < 5) = true := decide_eq_true (by omega)
          obtain ⟨ad0', x', e0', hab0', hx', hxci⟩ := (S0.out.below hbi).byte (j := j) hlt
          injection e0' with e0'
          subst e0'
          obtain rfl : x' = x := by
            have := HX.out
            rw [hx'] at this
            injection this
          obtain ⟨m, hm⟩ : ∃ m, J5 + t = m := ⟨_, rfl⟩
          have hmi : (J5 : Int) + (t : Int) = (m : Int) := by omega
          have hmN : m < N5 := by omega
          have hwl := hWi.len
          obtain ⟨z, hz⟩ : ∃ z, ws'[m]? = some z := ⟨_, List.getElem?_eq_getElem (by rw [hwl]; omega)⟩
          have hqc := hRi.cell hz
          have hqf := hRi.frozen m
          have HR9 := Lib.hid (hRi.set_ m x')
          have HD9 := Lib.hid (hDi.setOther (g := q) (fun h => h.2 rfl) m (.int .u8 (x'.toNat : Int)))
          have HB9 := Lib.hid (hbi.setCell (p := ⟨q, m, none⟩) (by show b ≤ q; omega) (.int .u8 (x'.toNat : Int)))
          have HW9 := Lib.hid (hWi.set htl hlt hx')
          have he5 : 5 * j + t = m := by omega
          rw [he5] at HW9
          clear hRi hWi hDi hbi hz hx' hwl
          go_wp2_with fail
          exact ⟨⟨t + 1, _, by omega, by go_num, HR9.out, HW9.out, HD9.out, HB9.out⟩, by simp [intOf]; omega⟩
        · obtain rfl : t = 5 := by omega
          go_wp2_with fail
          exact ⟨⟨j + 1, D7, ws', by omega, by go_num, hRi, hWi, HL7.out, hDi, hbi⟩, by simp [intOf]; omega⟩
    · obtain rfl : n = j := by omega
      have hca := hL.ca
      have hlo := hL.lo
      have hwf := hD.wf
      have hqo := hr.lt
      go_wp2_with fail
      refine (dsync_any hD (by omega) (by omega) (by omega)).mono ?_
      rintro e w8 hP
      obtain ⟨rfl, hD8, hF8⟩ : e = .returned (.int .i64 0) ∧ DiskAt w8 b (fun k => b ≤ k ∧ k ≠ q) p D.count.synced ∧ Fr (fun k => b ≤ k ∧ k ≠ q) wo w8 := by
        rcases hP with ⟨h, _⟩ | ⟨_, h1, h2, h3⟩
        · exact absurd h (by rw [hL.fa]; omega)
        · exact ⟨h1, h2, h3⟩
      have hT8 := hL.sync hwf hn6 hW ps
      have hR8 := hr.fr hF8 (fun h => h.2 rfl)
      have hbb78 := hF8.below (B := b) (by omega) (fun k hk => by show ¬ (b ≤ k ∧ k ≠ q); omega)
      have hbb8 := hbw.trans hbb78
      generalize D.count.synced = D8 at hD8 hT8
      clear hP hD hr hL hW hF8 hbw hbb78 hwf hlo hca
      go_wp2_with fail
      go_loopw [14] (fun i wr => ∃ (j : Nat) (D : Dk) (ws : List UInt8), j ≤ n1 ∧ i = .int .i64 (j : Int) ∧ RowB wr q ws ∧ TSt D n j ws ps ∧ DiskAt wr b (fun k => b ≤ k ∧ k ≠ q) p D ∧ Below b w wr) (fun i _ => n1 - (intOf i).toNat)
      case atStart => exact ⟨0, _, _, Nat.zero_le _, rfl, hR8, hT8, hD8, hbb8⟩
      case round =>
        obtain ⟨wp, hwp⟩ : ∃ wp, wp = wr := ⟨_, rfl⟩
        subst hwp
        obtain ⟨i, D, ws, hi, rfl, hr, hT, hD, hbw⟩ := hrel
        have hbs := hbw.size
        rw [hb] at hbs
        by_cases hlt2 : i < n1
        · obtain ⟨ad1, x, rfl, hab1, hx, hxc⟩ := (S1.out.below hbw).byte (j := i) hlt2
          obtain ⟨a, hat, han⟩ := mod_at x n hn0
          have hx2 := x.toNat_lt
          have hqo : q < wp.heap.size := hr.lt
          have hvi : UInt8.ofNat i = UInt8.ofNat i := rfl
          obtain ⟨v, hv⟩ : ∃ v, UInt8.ofNat i = v := ⟨_, rfl⟩
          have hlit := lit_small i (by omega)
          rw [hv] at hlit
          have HLIT := Lib.hid hlit
          have HSV := Lib.hid (hv ▸ small_val i (by omega) : Value.int .u8 (i : Int) = .int .u8 (v.toNat : Int))
          have HT := Lib.hid hT
          have HR := Lib.hid hr
          have hcl : D.calls + 5 < 1000000000 := by have := hT.ca; omega
          have hlo : D.loose.length ≤ 1000000000 := by have := hT.lo; omega
          have hi256 : i < 256 := by omega
          clear hx hT hr hvi hlit hv
          go_wp2_with fail
          have hsl := Sl.lit wp [v] #[.int .u8 (i : Int)] HLIT.out 1 rfl (0, 0)
          have hb5 : Below b w (wp.alloc (.cells #[.int .u8 (i : Int)] 5)) := hbw.alloc hbs _
          have hD5 := hD.below ((Below.refl _ wp).alloc (Nat.le_refl _) (.cells #[.int .u8 (i : Int)] 5))
          have hR5 := HR.out.below ((Below.refl _ wp).alloc (Nat.le_refl _) (.cells #[.int .u8 (i : Int)] 5)) hqo
          have hz5 : wp.heap.size + 1 ≤ (wp.alloc (.cells #[.int .u8 (i : Int)] 5)).heap.size := by simp
          clear hD hxc hbw HR
          generalize wp.alloc (.cells #[.int .u8 (i : Int)] 5) = w5 at hsl hb5 hD5 hR5 hz5 ⊢
          refine (full_is w5 640 (by omega) (by omega) _ _ 1 _ [v] hsl (by omega) (by omega) (by omega)).mono ?_
          rintro e w6 ⟨rfl, hr6, hb6⟩
          rw [fullB_one] at hr6
          have hz6 := hb6.size
          have hD6 := hD5.below hb6
          have hp6 := hD5.bp
          have hR6 := hR5.below hb6 (by omega)
          have hbb6 := hb5.trans (hb6.mono (by omega))
          clear hsl hD5 hR5 hb5
          obtain ⟨f6, hf6⟩ : ∃ f6, w5.heap.size = f6 := ⟨_, rfl⟩
          rw [hf6] at hr6 hz6 hz5 hp6 ⊢
          clear hf6 hb6
          go_wp2_with fail
          refine (dwrite_any hD6 (fun k hk => by show b ≤ k ∧ k ≠ q; omega) (by omega) (by omega) hlo (a : Int) _ _ _ _ _ (hr6.slN (n := 640) (by rw [List.length_replicate]) (by omega)) (fun ad e => by
            injection e with e
            subst e
            exact ⟨by show f6 ≠ p; omega, hr6.lt⟩) (by omega)).mono ?_
          rintro e w7 hP
          obtain ⟨rfl, hD7, hF7⟩ : e = .returned (.int .i64 0) ∧ DiskAt w7 b (fun k => b ≤ k ∧ k ≠ q) p (D.count.written a (List.replicate 640 v)) ∧ Fr (fun k => b ≤ k ∧ k ≠ q) w6 w7 := by
            rcases hP with ⟨h, _⟩ | ⟨_, h, _⟩ | ⟨_, _, h, _⟩ | ⟨_, _, _, h1, h2, h3⟩
            · exact absurd (show 0 ≤ (a : Int) ∧ (a : Int) < (D.good.length : Int) by rw [HT.out.g]; omega) h
            · exact absurd (show (List.replicate 640 v).length = D.size by rw [List.length_replicate, HT.out.sz]) h
            · exact absurd h (by rw [HT.out.fa]; omega)
            · exact ⟨h1, h2, h3⟩
          have hT7 := HT.out.write han v
          have hwl := HT.out.sec.1
          rw [crashed_length, HT.out.g] at hwl
          have hR7 := hR6.fr hF7 (fun h => h.2 rfl)
          have hbb67 := hF7.below (B := b) (by omega) (fun k hk => by show ¬ (b ≤ k ∧ k ≠ q); omega)
          have hbb7 := hbb6.trans hbb67
          have hz7 := hF7.size
          generalize D.count.written a (List.replicate 640 v) = D7 at hD7 hT7
          clear hP hD6 hR6 hr6 hbb6 hF7 hbb67
          by_cases hpk : i < n2
          · have d5 : decide (i < n2) = true := decide_eq_true hpk
            have d5' : decide ((i : Int) < (n2 : Int)) = true := decide_eq_true (by omega)
            obtain ⟨pk, hpk2⟩ : ∃ pk, ps[i]? = some pk := ⟨_, List.getElem?_eq_getElem (by rw [hpl]; exact hpk)⟩
            rw [hpk2] at hT7
            have HT7 := Lib.hid hT7
            have HPK := Lib.hid hpk2
            clear hT7 hpk2 HT hcl hlo
            go_wp2_with fail
            obtain ⟨J5, hJ5⟩ : ∃ J5, 5 * a = J5 := ⟨_, rfl⟩
            have hmj : (5 : Int) * (a : Int) = (J5 : Int) := by omega
            have hwl' : ws.length = N5 := by omega
            clear hwl
            go_loopw [16] (fun i wr => ∃ (t : Nat), t ≤ 5 ∧ i = .int .i64 (t : Int) ∧ RowB wr q (wantTo ws a pk v t) ∧ DiskAt wr b (fun k => b ≤ k ∧ k ≠ q) p D7 ∧ Below b w wr) (fun i _ => 5 - (intOf i).toNat)
            case atStart => exact ⟨0, Nat.zero_le _, rfl, hR7, hD7, hbb7⟩
            case round =>
              obtain ⟨t, ht, rfl, hRi, hDi, hbi⟩ := hrel
              have hbis := hbi.size
              rw [hb] at hbis
              by_cases htl : t < 5
              · have d4 : decide (t < 5) = true := decide_eq_true htl
                have d4' : decide ((t : Int) < 5) = true := decide_eq_true (by omega)
                obtain ⟨ad2, pk', e2, hab2, hpk', hpc⟩ := (S2.out.below hbi).byte (j := i) hpk
                obtain rfl : pk' = pk := by
                  have := HPK.out
                  rw [hpk'] at this
                  injection this
                subst e2
                have hpk256 := pk'.toNat_lt
                have hbit := pick_bit5 pk' t htl
                obtain ⟨m, hm⟩ : ∃ m, J5 + t = m := ⟨_, rfl⟩
                have hmi : (J5 : Int) + (t : Int) = (m : Int) := by omega
                have hmN : m < N5 := by omega
                have hHp : Hid (pickB pk' (t * 128) = true ∨ pickB pk' (t * 128) = false) := Lib.hid (by cases pickB pk' (t * 128) <;> simp)
                rcases hHp.out with hpb | hpb
                · rw [hpb] at hbit
                  have hs9 : wantTo ws a pk' v (t + 1) = (wantTo ws a pk' v t).set m v := by
                    rw [wantTo, if_pos hpb, hJ5, hm]
                  have hwtl := wantTo_length ws a pk' v t
                  obtain ⟨z, hz⟩ : ∃ z, (wantTo ws a pk' v t)[m]? = some z := ⟨_, List.getElem?_eq_getElem (by rw [hwtl]; omega)⟩
                  have hqc := hRi.cell hz
                  have hqf := hRi.frozen m
                  have HR9 := Lib.hid (hs9 ▸ (HSV.out ▸ hRi.set_ m v) : RowB (wr.setCell ⟨q, m, none⟩ (.int .u8 (i : Int))) q (wantTo ws a pk' v (t + 1)))
                  have HD9 := Lib.hid (hDi.setOther (g := q) (fun h => h.2 rfl) m (.int .u8 (i : Int)))
                  have HB9 := Lib.hid (hbi.setCell (p := ⟨q, m, none⟩) (by show b ≤ q; omega) (.int .u8 (i : Int)))
                  clear hRi hDi hbi hz hpk' hwtl hs9 hpb
                  go_wp2_with fail
                  exact ⟨⟨t + 1, by omega, by go_num, HR9.out, HD9.out, HB9.out⟩, by simp [intOf]; omega⟩
                · rw [hpb] at hbit
                  have hs9 : wantTo ws a pk' v (t + 1) = wantTo ws a pk' v t := by
                    rw [wantTo, if_neg (by rw [hpb]; simp)]
                  rw [← hs9] at hRi
                  clear hpk' hs9 hpb
                  go_wp2_with fail
                  exact ⟨⟨t + 1, by omega, by go_num, hRi, hDi, hbi⟩, by simp [intOf]; omega⟩
              · obtain rfl : t = 5 := by omega
                go_wp2_with fail
                exact ⟨⟨i + 1, D7, _, by omega, by go_num, hRi, HT7.out, hDi, hbi⟩, by simp [intOf]; omega⟩
          · have d5 : decide (i < n2) = false := decide_eq_false hpk
            have d5' : decide ((i : Int) < (n2 : Int)) = false := decide_eq_false (by omega)
            have hpk2 : ps[i]? = none := List.getElem?_eq_none (by rw [hpl]; omega)
            rw [hpk2] at hT7
            have HT7 := Lib.hid (show TSt D7 n (i + 1) ws ps from hT7)
            clear hT7 hpk2 HT hcl hlo
            go_wp2_with fail
            go_loopw [16] (fun i wr => i = .int .i64 0 ∧ wr = w7) (fun i _ => 0)
            case atStart => exact ⟨rfl, rfl⟩
            case round =>
              obtain ⟨rfl, rfl⟩ := hrel
              go_wp2_with fail
              exact ⟨⟨i + 1, D7, ws, by omega, by go_num, hR7, HT7.out, hD7, hbb7⟩, by simp [intOf]; omega⟩
        · obtain rfl : i = n1 := by omega
          have hlo := hT.lo
          have hqo := hr.lt
          go_wp2_with fail
          refine (dcrash_any hD (fun k hk => by show b ≤ k ∧ k ≠ q; omega) (by omega) (by omega) A2 n2 c2 ps ((S2.out.below hbw).more hbs) (fun hpos ad e => by
            obtain ⟨ad', e', hlt', _⟩ := S2.out.reads.2 hpos
            rw [e] at e'
            injection e' with e'
            subst e'
            intro h
            have : b ≤ ad.block := h.1
            omega)).mono ?_
          rintro e w8 ⟨rfl, hD8, hF8⟩
          have hU8 := hT.crash (C := 40) (by omega)
          have hR8 := hr.fr hF8 (fun h => h.2 rfl)
          have hbb8 := hbw.trans (hF8.below (B := b) (by omega) (fun k hk => by show ¬ (b ≤ k ∧ k ≠ q); omega))
          generalize D.crash ps = D8 at hD8 hU8
          clear hD hr hT hF8 hbw hlo
          go_wp2_with fail
          go_loopw [17] (fun i wr => ∃ (j : Nat) (D : Dk), j ≤ n ∧ i = .int .i64 (j : Int) ∧ RowB wr q ws ∧ USt D n (40 + j) ws ∧ DiskAt wr b (fun k => b ≤ k ∧ k ≠ q) p D ∧ Below b w wr) (fun i _ => n - (intOf i).toNat)
          case atStart => exact ⟨0, _, Nat.zero_le _, rfl, hR8, hU8, hD8, hbb8⟩
          case round =>
            obtain ⟨wq, hwq⟩ : ∃ wq, wq = wr := ⟨_, rfl⟩
            subst hwq
            obtain ⟨j, D, hj, rfl, hr, hU, hD, hbw⟩ := hrel
            have hbs := hbw.size
            rw [hb] at hbs
            by_cases hlt3 : j < n
            · have hqi := hr.lt
              go_wp2_with fail
              refine (dread_any hD (fun k hk => by show b ≤ k ∧ k ≠ q; omega) (by omega) (by have := hU.ca; omega) (by rw [hU.lo]; exact Nat.zero_le _) (j : Int)).mono ?_
              rintro e w10 hP
              have hlk := hU.lk j hlt3
              obtain ⟨g, cg, rfl, hcg, hM, hD10, hF10⟩ : ∃ g c, e = .returned (.tuple #[.slice (some ⟨g, 0, none⟩) 640 c, .int .i64 0]) ∧ 640 ≤ c ∧ MB w10 g (secPage ws j) ∧ DiskAt w10 b (fun k => b ≤ k ∧ k ≠ q) p D.count ∧ Fr (fun k => b ≤ k ∧ k ≠ q) wq w10 := by
                rcases hP with ⟨h, _⟩ | ⟨_, h, _⟩ | ⟨_, _, g, c, h1, h2, _, h4, _, h5, h6⟩
                · exact absurd (show 0 ≤ (j : Int) ∧ (j : Int) < (D.good.length : Int) by rw [hU.g]; omega) h
                · exact absurd h (by rw [hU.fa]; omega)
                · rw [hU.sz] at h1 h2
                  rw [Int.toNat_natCast, hlk] at h4
                  exact ⟨g, c, h1, h2, h4, h5.wide (fun k h => h.1), h6⟩
              have hR10 := hr.fr hF10 (fun h => h.2 rfl)
              have HU10 := Lib.hid hU.count
              have hwl := hU.wl
              have hB10 := hbw.trans (hF10.below (by omega) (fun k hk => by show ¬ (b ≤ k ∧ k ≠ q); omega))
              have hg10 := hM.1
              clear hP hr hD hF10 hU hbw hlk
              go_wp2_with fail
              obtain ⟨J5, hJ5⟩ : ∃ J5, 5 * j = J5 := ⟨_, rfl⟩
              have hmj : (5 : Int) * (j : Int) = (J5 : Int) := by omega
              go_loopw [20] (fun i wr => ∃ (k : Nat), k ≤ 640 ∧ i = .int .i64 (k : Int) ∧ RowB wr q ws ∧ MB wr g (secPage ws j) ∧ DiskAt wr b (fun k => b ≤ k ∧ k ≠ q) p D.count ∧ Below b w wr) (fun i _ => 640 - (intOf i).toNat)
              case atStart => exact ⟨0, Nat.zero_le _, rfl, hR10, hM, hD10, hB10⟩
              case round =>
                obtain ⟨k, hk, rfl, hRi, hMi, hDi, hbi⟩ := hrel
                by_cases hkl : k < 640
                · have d4 : decide (k < 640) = true := decide_eq_true hkl
                  have d4' : decide ((k : Int) < 640) = true := decide_eq_true (by omega)
                  obtain ⟨v, hv1, hv2⟩ := secPage_get (want := ws) (i := j) hkl (by omega)
                  have m0 : wr.cell? ⟨g, k, none⟩ = some (.int .u8 (v.toNat : Int)) := (hMi.2 k v hv1).1
                  obtain ⟨d, hd⟩ : ∃ d, k / 128 = d := ⟨_, rfl⟩
                  have hdi : (k : Int) / 128 = (d : Int) := by omega
                  obtain ⟨m, hm⟩ : ∃ m, J5 + d = m := ⟨_, rfl⟩
                  have hmi : (J5 : Int) + (d : Int) = (m : Int) := by omega
                  have hmN : m < N5 := by omega
                  rw [hd, hJ5, hm] at hv2
                  have mq := hRi.cell hv2
                  have HR9 := Lib.hid hRi
                  have HM9 := Lib.hid hMi
                  have HD9 := Lib.hid hDi
                  have HB9 := Lib.hid hbi
                  have hd5 : d ≤ 5 := by omega
                  clear hRi hMi hDi hbi hv1 hv2 hd hm hR10 hM hD10 hB10
                  go_wp2_with fail
                  go_quiet (fail)
                  have hr' : RowB (wr.drewN nq) q ws := HR9.out
                  have hm' : MB (wr.drewN nq) g (secPage ws j) := HM9.out
                  have hd' : DiskAt (wr.drewN nq) b (fun k => b ≤ k ∧ k ≠ q) p D.count := HD9.out.below (below_drewN (Below.refl _ _) nq)
                  have hb' := below_drewN HB9.out nq
                  clear m0 mq HR9 HD9 HB9 HM9
                  generalize wr.drewN nq = w11 at hr' hm' hd' hb' ⊢
                  go_wp2_with fail
                  exact ⟨⟨k + 1, by omega, by go_num, hr', hm', hd', hb'⟩, by simp [intOf]; omega⟩
                · obtain rfl : k = 640 := by omega
                  go_wp2_with fail
                  exact ⟨⟨j + 1, _, by omega, by go_num, hRi, HU10.out, hDi, hbi⟩, by simp [intOf]; omega⟩
            · obtain rfl : n = j := by omega
              have hlo : Calls Try.prog 26 #[.pointer (some ⟨p, 0, none⟩)] wq fun e w' => e = .returned (.int .i64 0) ∧ wq = w' := by
                have := dloose_any hD
                rw [hU.lo] at this
                exact this
              clear hD
              go_wp2_with (first | (go_at_call 26; refine hlo.mono ?_; rintro e w' ⟨rfl, rfl⟩))
              go_ret
              exact ⟨rfl, hbw⟩
end Go.Proofs.Ythijobbhpbklmaa
