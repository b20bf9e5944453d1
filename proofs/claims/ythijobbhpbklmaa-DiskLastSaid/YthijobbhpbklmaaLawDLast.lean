/- DiskLast. -/
import Derived.Test.YthijobbhpbklmaaDLastP
import Derived.BigQuiet
namespace Go.Proofs.Ythijobbhpbklmaa
open Go.RowKit
set_option linter.unusedVariables false
set_option linter.unusedSimpArgs false

theorem DiskAt.wide {w : World} {base p : Nat} {ok ok' : Nat → Prop} {D : Dk} (h : DiskAt w base ok p D) (hk : ∀ k, ok k → ok' k) : DiskAt w base ok' p D := h.other fun k _ ho => ⟨rfl, hk k ho⟩
theorem RowB.fr {w w' : World} {g : Nat} {l : List UInt8} {ok : Nat → Prop} (h : RowB w g l) (hF : Fr ok w w') (hg : ¬ ok g) : RowB w' g l := (hF.2.2.2.2 g h.lt hg).trans h
theorem DiskAt.wf {w : World} {base p : Nat} {ok : Nat → Prop} {D : Dk} (h : DiskAt w base ok p D) : D.OK := by
  obtain ⟨_, _, _, _, h⟩ := h
  exact h.wf
theorem DiskAt.bp {w : World} {base p : Nat} {ok : Nat → Prop} {D : Dk} (h : DiskAt w base ok p D) : p < w.heap.size ∧ ok p := by
  obtain ⟨_, _, _, _, h⟩ := h
  exact ⟨h.blk.lt, h.okp⟩
theorem DiskAt.setOther {w : World} {base p : Nat} {ok : Nat → Prop} {D : Dk} (h : DiskAt w base ok p D) {g : Nat} (hg : ¬ ok g) (i : Nat) (u : Value) : DiskAt (w.setCell ⟨g, i, none⟩ u) base ok p D :=
  h.other fun k _ ho => ⟨Below.heap_setCell _ _ _ _ (fun e => hg (by have e : k = g := e; rw [← e]; exact ho)), ho⟩
theorem Sl.byte {w : World} {B : Nat} {A : Option Addr} {n c : Nat} {l : List UInt8} (h : Sl w B A n c l) {j : Nat} (hj : j < n) : ∃ ad x, A = some ad ∧ ad.block < B ∧ l[j]? = some x ∧ w.cell? (ad.add j) = some (.int .u8 (x.toNat : Int)) := by
  obtain ⟨ad, u, ea, hb, hu, hc⟩ := h.reads.at_ hj
  simp only [bv, List.getElem?_map, Option.map_eq_some_iff] at hu
  obtain ⟨q, hq, rfl⟩ := hu
  exact ⟨ad, q, ea, hb, hq, hc⟩
theorem Sl.single {w : World} {B : Nat} {ad : Addr} {x : UInt8} {c : Nat} (hB : ad.block < B) (hc : 1 ≤ c) (h : w.cell? ad = some (.int .u8 (x.toNat : Int))) : Sl w B (some ad) 1 c [x] :=
  ⟨⟨rfl, fun _ => ⟨ad, rfl, hB, fun i u hu => by
    cases i with
    | zero => simp [bv] at hu; subst hu; exact h
    | succ i => simp [bv] at hu⟩⟩, rfl, hc, fun h => by cases h⟩

set_option maxRecDepth 100000 in
set_option maxHeartbeats 1000000 in
theorem diskLast_early (w : World) (A0 A1 A2 : Option Addr) (n0 c0 n1 c1 n2 c2 : Nat) (h : 40 < n0 ∨ n1 < n0 ∨ n2 < n0) :
    Calls Try.prog 5 #[.slice A0 n0 c0, .slice A1 n1 c1, .slice A2 n2 c2] w fun e w' => e = .returned (.bool true) ∧ Below w.heap.size w w' := by
  have haw := awake03 w
  by_cases h0 : 40 < n0
  · have d0 : decide (40 < n0) = true := decide_eq_true h0
    have d0' : decide ((40 : Int) < (n0 : Int)) = true := decide_eq_true (by omega)
    clear h
    go_enter Try.func5, Try.ntmps5
    go_wp2_with fail
    refine haw.mono ?_
    rintro e w1 ⟨rfl, hb1⟩
    go_wp2_with fail
    go_ret
    exact ⟨rfl, hb1⟩
  have d0 : decide (40 < n0) = false := decide_eq_false h0
  have d0' : decide ((40 : Int) < (n0 : Int)) = false := decide_eq_false (by omega)
  by_cases h1 : n1 < n0
  · have d1 : decide (n1 < n0) = true := decide_eq_true h1
    have d1' : decide ((n1 : Int) < (n0 : Int)) = true := decide_eq_true (by omega)
    clear h
    go_enter Try.func5, Try.ntmps5
    go_wp2_with fail
    refine haw.mono ?_
    rintro e w1 ⟨rfl, hb1⟩
    go_wp2_with fail
    go_ret
    exact ⟨rfl, hb1⟩
  have d1 : decide (n1 < n0) = false := decide_eq_false h1
  have d1' : decide ((n1 : Int) < (n0 : Int)) = false := decide_eq_false (by omega)
  have h2 : n2 < n0 := by omega
  have d2 : decide (n2 < n0) = true := decide_eq_true h2
  have d2' : decide ((n2 : Int) < (n0 : Int)) = true := decide_eq_true (by omega)
  clear h
  go_enter Try.func5, Try.ntmps5
  go_wp2_with fail
  refine haw.mono ?_
  rintro e w1 ⟨rfl, hb1⟩
  go_wp2_with fail
  go_ret
  exact ⟨rfl, hb1⟩

set_option maxRecDepth 100000 in
set_option maxHeartbeats 1000000 in
theorem diskLast_law (w : World) (A0 A1 A2 : Option Addr) (n0 c0 n1 c1 n2 c2 : Nat) (l0 l1 l2 : List UInt8) (s0 : Sl w w.heap.size A0 n0 c0 l0) (s1 : Sl w w.heap.size A1 n1 c1 l1) (s2 : Sl w w.heap.size A2 n2 c2 l2) :
    Calls Try.prog 5 #[.slice A0 n0 c0, .slice A1 n1 c1, .slice A2 n2 c2] w fun e w' => e = .returned (.bool true) ∧ Below w.heap.size w w' := by
  by_cases hearly : 40 < n0 ∨ n1 < n0 ∨ n2 < n0
  · exact diskLast_early w A0 A1 A2 n0 c0 n1 c1 n2 c2 hearly
  have haw := awake03 w
  have hn40 : n0 ≤ 40 := by omega
  have hn1 : n0 ≤ n1 := by omega
  have hn2 : n0 ≤ n2 := by omega
  have d0 : decide (40 < n0) = false := decide_eq_false (by omega)
  have d0' : decide ((40 : Int) < (n0 : Int)) = false := decide_eq_false (by omega)
  have d1 : decide (n1 < n0) = false := decide_eq_false (by omega)
  have d1' : decide ((n1 : Int) < (n0 : Int)) = false := decide_eq_false (by omega)
  have d2 : decide (n2 < n0) = false := decide_eq_false (by omega)
  have d2' : decide ((n2 : Int) < (n0 : Int)) = false := decide_eq_false (by omega)
  clear hearly
  have hc1 := s1.cap
  have S0 := Lib.hid s0
  have S1 := Lib.hid s1
  have S2 := Lib.hid s2
  clear s0 s1 s2
  obtain ⟨b, hb⟩ : ∃ b, w.heap.size = b := ⟨_, rfl⟩
  rw [hb] at haw S0 S1 S2 ⊢
  go_enter Try.func5, Try.ntmps5
  go_wp2_with fail
  refine haw.mono ?_
  rintro e w1 ⟨rfl, hb1⟩
  have hz1 := hb1.size
  rw [hb] at hz1
  go_wp2_with fail
  refine (dnew_is w1 512 9 (by unfold NewOk; omega) b (fun k => b ≤ k) hz1 hz1).mono ?_
  rintro e w2 ⟨rfl, hD2, hb2⟩
  have hz2 := hb2.size
  have hbb2 := hb1.trans (hb2.mono hz1)
  clear hb2 hb1 haw
  generalize w1.heap.size = p at hD2 hz1 hz2 ⊢
  go_wp2_with fail
  refine (dgrow_any hD2 (fun k hk => by show b ≤ k; omega) (by omega) (by decide) 4 (by omega)).mono ?_
  rintro e w3 hG
  obtain ⟨rfl, hD3, hF3⟩ : e = .returned (.int .i64 0) ∧ DiskAt w3 b (fun k => b ≤ k) p ((dNew 512 9).count.grown 4) ∧ Fr (fun k => b ≤ k) w2 w3 := by
    rcases hG with ⟨h, _⟩ | ⟨_, h, _⟩ | ⟨_, _, h, _⟩ | ⟨_, _, _, h1, h2, h3⟩
    · exact absurd h (by decide)
    · exact absurd h (by decide)
    · exact absurd h (by decide)
    · exact ⟨h1, h2, h3⟩
  have hbb3 := hbb2.trans (hF3.below (by omega) (fun k hk => by show ¬ b ≤ k; omega))
  have hz3 := hF3.size
  clear hG hD2 hF3 hbb2
  have hL3 := lst_start
  generalize (dNew 512 9).count.grown 4 = D3 at hD3 hL3
  go_wp2_with (first | (at_make; refine wpList_make_bytesN _ rfl _ _ _ rfl Try.underlying30 info_u8 _ _ _ rfl rfl 4 rfl (by omega) ?_; intro w4 hr4 hb4))
  have hD4 : DiskAt w4 b (fun k => b ≤ k ∧ k ≠ w3.heap.size) p D3 := hD3.other fun k hk ho => ⟨hb4.block k hk, ho, by omega⟩
  have hz4 := hb4.size
  have hbb4 := hbb3.trans (hb4.mono (by omega))
  have hqz := hr4.lt
  clear hb4 hbb3 hD3
  generalize w3.heap.size = q at hr4 hD4 hz3 hz4 hqz ⊢
  go_loopw [11] (fun i wr => ∃ (j : Nat) (D : Dk) (ls : List UInt8), j ≤ n0 ∧ i = .int .i64 (j : Int) ∧ ls.length = 4 ∧ RowB wr q ls ∧ LSt D j (1 + 6 * j) ls ∧ DiskAt wr b (fun k => b ≤ k ∧ k ≠ q) p D ∧ Below b w wr) (fun i _ => n0 - (intOf i).toNat)
  case atStart => exact ⟨0, D3, [0, 0, 0, 0], Nat.zero_le _, rfl, rfl, hr4, hL3, hD4, hbb4⟩
  case round =>
    obtain ⟨wo, hwo⟩ : ∃ wo, wo = wr := ⟨_, rfl⟩
    subst hwo
    obtain ⟨j, D, ls, hj, rfl, hll, hr, hL, hD, hbw⟩ := hrel
    have hbs := hbw.size
    rw [hb] at hbs
    by_cases hlt : j < n0
    · obtain ⟨ad0, x, rfl, hab0, hx, hxc⟩ := (S0.out.below hbw).byte (j := j) hlt
      obtain ⟨ad1, f, rfl, hab1, hf, hfc⟩ := (S1.out.below hbw).byte (j := j) (by omega)
      obtain ⟨ad2, y, rfl, hab2, hy, hyc⟩ := (S2.out.below hbw).byte (j := j) (by omega)
      have hx2 := x.toNat_lt
      have htm : (x.toNat : Int).tmod 4 = ((x.toNat % 4 : Nat) : Int) := by rw [Int.tmod_eq_emod_of_nonneg (by omega)]; rfl
      obtain ⟨k, hk⟩ : ∃ k, x.toNat % 4 = k := ⟨_, rfl⟩
      rw [hk] at htm
      have hk4 : k < 4 := by omega
      have hj1 : j + 1 ≤ c1 := by omega
      have hcj : ¬ c1 = j := by omega
      have hsl := Sl.single (B := b) (c := c1 - j) (by rw [block_of_add]; exact hab1) (by omega) hfc
      have hqo : q < wo.heap.size := hr.lt
      have hab1' := hab1
      have hab2' := hab2
      have HL := Lib.hid hL
      have HR := Lib.hid hr
      have HLL := Lib.hid hll
      have hcl : D.calls + 5 < 1000000000 := by have := hL.ca; omega
      have hlo : D.loose.length ≤ 1000000000 := by have := hL.lo; omega
      clear hk hx hf hy hab0 hab1 hab2 hL hr hll
      go_wp2_with fail
      refine (full_is wo 512 (by omega) (by omega) b _ 1 _ [f] hsl hbs (by omega) (by omega)).mono ?_
      rintro e w6 ⟨rfl, hr6, hb6⟩
      rw [fullB_one] at hr6
      have hz6 := hb6.size
      have hD6 := hD.below hb6
      have hp6 := hD.bp
      have hR6 := HR.out.below hb6 hqo
      have hbb6 := hbw.trans (hb6.mono hbs)
      have hyc6 := (hb6.cell (p := ad2.add j) (by rw [block_of_add]; omega)).trans hyc
      have hfc0 := (hb6.cell (p := ad1.add j) (by rw [block_of_add]; omega)).trans hfc
      clear hsl hD hfc hyc hxc hbw
      obtain ⟨f6, hf6⟩ : ∃ f6, wo.heap.size = f6 := ⟨_, rfl⟩
      rw [hf6] at hr6 hz6 hqo hp6 hbs ⊢
      clear hf6 hb6
      go_wp2_with fail
      refine (dwrite_any hD6 (fun k hk => by show b ≤ k ∧ k ≠ q; omega) (by omega) (by omega) hlo (k : Int) _ _ _ _ _ (hr6.slN (n := 512) (by rw [List.length_replicate]) (by omega)) (fun ad e => by
        injection e with e
        subst e
        exact ⟨by show f6 ≠ p; omega, hr6.lt⟩) (by omega)).mono ?_
      rintro e w7 hP
      obtain ⟨rfl, hD7, hF7⟩ : e = .returned (.int .i64 0) ∧ DiskAt w7 b (fun k => b ≤ k ∧ k ≠ q) p (D.count.written k (List.replicate 512 f)) ∧ Fr (fun k => b ≤ k ∧ k ≠ q) w6 w7 := by
        rcases hP with ⟨h, _⟩ | ⟨_, h, _⟩ | ⟨_, _, h, _⟩ | ⟨_, _, _, h1, h2, h3⟩
        · exact absurd (show 0 ≤ (k : Int) ∧ (k : Int) < (D.good.length : Int) by rw [HL.out.g]; omega) h
        · exact absurd (show (List.replicate 512 f).length = D.size by rw [List.length_replicate, HL.out.sz]) h
        · exact absurd h (by rw [HL.out.fa]; omega)
        · exact ⟨h1, h2, h3⟩
      have hL7 := HL.out.write hk4 HLL.out f
      have hR7 := hR6.fr hF7 (fun h => h.2 rfl)
      have hbb67 := hF7.below (B := b) (by omega) (fun k hk => by show ¬ (b ≤ k ∧ k ≠ q); omega)
      have hbb7 := hbb6.trans hbb67
      have hyc7 := (hbb67.cell (p := ad2.add j) (by rw [block_of_add]; exact hab2')).trans hyc6
      have hfc7 := (hbb67.cell (p := ad1.add j) (by rw [block_of_add]; exact hab1')).trans hfc0
      have hz7 := hF7.size
      generalize D.count.written k (List.replicate 512 f) = D7 at hD7 hL7
      clear hP hD6 hR6 hr6 hbb6 hyc6 hfc0 hF7 hbb67
      by_cases hy0 : (bits BinOp.and IntKind.u8 (y.toNat : Int) 3 == 0) = true
      · go_wp2_with fail
        have hca7 := hL7.ca
        have hlo7 := hL7.lo
        refine (dsync_any hD7 (by omega) (by omega) (by omega)).mono ?_
        rintro e w8 hP
        obtain ⟨rfl, hD8, hF8⟩ : e = .returned (.int .i64 0) ∧ DiskAt w8 b (fun k => b ≤ k ∧ k ≠ q) p D7.count.synced ∧ Fr (fun k => b ≤ k ∧ k ≠ q) w7 w8 := by
          rcases hP with ⟨h, _⟩ | ⟨_, h1, h2, h3⟩
          · exact absurd h (by rw [hL7.fa]; omega)
          · exact ⟨h1, h2, h3⟩
        have HL8 := Lib.hid ((hL7.sync hD7.wf).more (show _ ≤ 1 + 6 * j + 2 + 0 by omega))
        have hR8 := hR7.fr hF8 (fun h => h.2 rfl)
        have hbb78 := hF8.below (B := b) (by omega) (fun k hk => by show ¬ (b ≤ k ∧ k ≠ q); omega)
        have hbb8 := hbb7.trans hbb78
        have hfc8 := (hbb78.cell (p := ad1.add j) (by rw [block_of_add]; exact hab1')).trans hfc7
        generalize D7.count.synced = D8 at hD8 HL8
        clear hP hD7 hR7 hL7 hyc7 hF8 hbb7 hbb78 hfc7
        have hq4 : k < ls.length := by rw [HLL.out]; exact hk4
        obtain ⟨z, hz⟩ : ∃ z, ls[k]? = some z := ⟨_, List.getElem?_eq_getElem hq4⟩
        have hqc := hR8.cell hz
        have hqf := hR8.frozen k
        have HR9 := Lib.hid (hR8.set_ k f)
        have HD9 := Lib.hid (hD8.setOther (g := q) (fun h => h.2 rfl) k (.int .u8 (f.toNat : Int)))
        have hbb9 := hbb8.setCell (p := ⟨q, k, none⟩) (by show b ≤ q; omega) (.int .u8 (f.toNat : Int))
        have HB9 := Lib.hid hbb9
        clear hbb9 hD8 hR8 hz
        go_wp2_with fail
        generalize w8.setCell ⟨q, k, none⟩ (.int .u8 (f.toNat : Int)) = w9 at HR9 HD9 HB9 ⊢
        clear hfc8 hqc hqf
        go_loopw [13] (fun i wr => ∃ (t : Nat) (D' : Dk), t ≤ 4 ∧ i = .int .i64 (t : Int) ∧ RowB wr q (ls.set k f) ∧ LSt D' (j + 1) (1 + 6 * j + 2 + t) (ls.set k f) ∧ DiskAt wr b (fun k => b ≤ k ∧ k ≠ q) p D' ∧ Below b w wr) (fun i _ => 4 - (intOf i).toNat)
        case atStart => exact ⟨0, _, Nat.zero_le _, rfl, HR9.out, HL8.out, HD9.out, HB9.out⟩
        case round =>
          obtain ⟨t, E, ht, rfl, hRi, hLi, hDi, hbi⟩ := hrel
          have hbis := hbi.size
          rw [hb] at hbis
          by_cases htl : t < 4
          · have d4 : decide (t < 4) = true := decide_eq_true htl
            have d4' : decide ((t : Int) < 4) = true := decide_eq_true (by omega)
            have hqi := hRi.lt
            go_wp2_with fail
            refine (dread_any hDi (fun k hk => by show b ≤ k ∧ k ≠ q; omega) (by omega) (by have := hLi.ca; omega) (by have := hLi.lo; omega) (t : Int)).mono ?_
            rintro e w10 hP
            obtain ⟨v, hv⟩ : ∃ v, (ls.set k f)[t]? = some v := ⟨_, List.getElem?_eq_getElem (by rw [List.length_set, HLL.out]; exact htl)⟩
            have hlk := hLi.lk t htl
            rw [show (ls.set k f).getD t 0 = v from by simp only [List.getD, hv]; rfl] at hlk
            obtain ⟨g, cg, rfl, hcg, hM, hD10, hF10⟩ : ∃ g c, e = .returned (.tuple #[.slice (some ⟨g, 0, none⟩) 512 c, .int .i64 0]) ∧ 512 ≤ c ∧ MB w10 g (List.replicate 512 v) ∧ DiskAt w10 b (fun k => b ≤ k ∧ k ≠ q) p E.count ∧ Fr (fun k => b ≤ k ∧ k ≠ q) wr w10 := by
              rcases hP with ⟨h, _⟩ | ⟨_, h, _⟩ | ⟨_, _, g, c, h1, h2, _, h4, _, h5, h6⟩
              · exact absurd (show 0 ≤ (t : Int) ∧ (t : Int) < (E.good.length : Int) by rw [hLi.g]; omega) h
              · exact absurd h (by rw [hLi.fa]; omega)
              · rw [hLi.sz] at h1 h2
                rw [Int.toNat_natCast, hlk] at h4
                exact ⟨g, c, h1, h2, h4, h5.wide (fun k h => h.1), h6⟩
            have hR10 := hRi.fr hF10 (fun h => h.2 rfl)
            have m0 : w10.cell? ⟨g, 0, none⟩ = some (.int .u8 (v.toNat : Int)) := (hM.2 0 v (by rw [List.getElem?_replicate, if_pos (by omega)])).1
            have m5 : w10.cell? ⟨g, 511, none⟩ = some (.int .u8 (v.toNat : Int)) := (hM.2 511 v (by rw [List.getElem?_replicate, if_pos (by omega)])).1
            have mq := hR10.cell hv
            have HL10 := Lib.hid hLi.count
            have HB10 := Lib.hid (hbi.trans (hF10.below (by omega) (fun k hk => by show ¬ (b ≤ k ∧ k ≠ q); omega)))
            have HR10 := Lib.hid hR10
            have HD10 := Lib.hid hD10
            clear hP hM hR10 hD10 hF10 hRi hLi hDi hbi hlk hv
            go_wp2_with fail
            go_quiet (fail)
            have hr' : RowB (w10.drewN nq) q (ls.set k f) := HR10.out
            have hd' : DiskAt (w10.drewN nq) b (fun k => b ≤ k ∧ k ≠ q) p E.count := HD10.out.below (below_drewN (Below.refl _ _) nq)
            have hb' := below_drewN HB10.out nq
            clear m0 m5 mq HR10 HD10 HB10
            generalize w10.drewN nq = w11 at hr' hd' hb' ⊢
            go_wp2_with fail
            exact ⟨⟨t + 1, _, by omega, by go_num, hr', HL10.out, hd', hb'⟩, by simp [intOf]; omega⟩
          · obtain rfl : t = 4 := by omega
            go_wp2_with fail
            exact ⟨⟨j + 1, E, ls.set k f, by omega, by go_num, by rw [List.length_set]; exact HLL.out, hRi, hLi.more (by omega), hDi, hbi⟩, by simp [intOf]; omega⟩
      · have hy1 : (bits BinOp.and IntKind.u8 (y.toNat : Int) 3 == 0) = false := by simpa using hy0
        have HL8 := Lib.hid (hL7.more (show _ ≤ 1 + 6 * j + 2 + 0 by omega))
        obtain ⟨w8, hw8⟩ : ∃ w8, w8 = w7 := ⟨_, rfl⟩
        subst hw8
        have hD8 := hD7
        have hR8 := hR7
        have hbb8 := hbb7
        have hfc8 := hfc7
        clear hy0 hD7 hR7 hL7 hbb7 hfc7
        have hq4 : k < ls.length := by rw [HLL.out]; exact hk4
        obtain ⟨z, hz⟩ : ∃ z, ls[k]? = some z := ⟨_, List.getElem?_eq_getElem hq4⟩
        have hqc := hR8.cell hz
        have hqf := hR8.frozen k
        have HR9 := Lib.hid (hR8.set_ k f)
        have HD9 := Lib.hid (hD8.setOther (g := q) (fun h => h.2 rfl) k (.int .u8 (f.toNat : Int)))
        have hbb9 := hbb8.setCell (p := ⟨q, k, none⟩) (by show b ≤ q; omega) (.int .u8 (f.toNat : Int))
        have HB9 := Lib.hid hbb9
        clear hbb9 hD8 hR8 hz
        go_wp2_with fail
        generalize w8.setCell ⟨q, k, none⟩ (.int .u8 (f.toNat : Int)) = w9 at HR9 HD9 HB9 ⊢
        clear hfc8 hqc hqf
        go_loopw [13] (fun i wr => ∃ (t : Nat) (D' : Dk), t ≤ 4 ∧ i = .int .i64 (t : Int) ∧ RowB wr q (ls.set k f) ∧ LSt D' (j + 1) (1 + 6 * j + 2 + t) (ls.set k f) ∧ DiskAt wr b (fun k => b ≤ k ∧ k ≠ q) p D' ∧ Below b w wr) (fun i _ => 4 - (intOf i).toNat)
        case atStart => exact ⟨0, _, Nat.zero_le _, rfl, HR9.out, HL8.out, HD9.out, HB9.out⟩
        case round =>
          obtain ⟨t, E, ht, rfl, hRi, hLi, hDi, hbi⟩ := hrel
          have hbis := hbi.size
          rw [hb] at hbis
          by_cases htl : t < 4
          · have d4 : decide (t < 4) = true := decide_eq_true htl
            have d4' : decide ((t : Int) < 4) = true := decide_eq_true (by omega)
            have hqi := hRi.lt
            go_wp2_with fail
            refine (dread_any hDi (fun k hk => by show b ≤ k ∧ k ≠ q; omega) (by omega) (by have := hLi.ca; omega) (by have := hLi.lo; omega) (t : Int)).mono ?_
            rintro e w10 hP
            obtain ⟨v, hv⟩ : ∃ v, (ls.set k f)[t]? = some v := ⟨_, List.getElem?_eq_getElem (by rw [List.length_set, HLL.out]; exact htl)⟩
            have hlk := hLi.lk t htl
            rw [show (ls.set k f).getD t 0 = v from by simp only [List.getD, hv]; rfl] at hlk
            obtain ⟨g, cg, rfl, hcg, hM, hD10, hF10⟩ : ∃ g c, e = .returned (.tuple #[.slice (some ⟨g, 0, none⟩) 512 c, .int .i64 0]) ∧ 512 ≤ c ∧ MB w10 g (List.replicate 512 v) ∧ DiskAt w10 b (fun k => b ≤ k ∧ k ≠ q) p E.count ∧ Fr (fun k => b ≤ k ∧ k ≠ q) wr w10 := by
              rcases hP with ⟨h, _⟩ | ⟨_, h, _⟩ | ⟨_, _, g, c, h1, h2, _, h4, _, h5, h6⟩
              · exact absurd (show 0 ≤ (t : Int) ∧ (t : Int) < (E.good.length : Int) by rw [hLi.g]; omega) h
              · exact absurd h (by rw [hLi.fa]; omega)
              · rw [hLi.sz] at h1 h2
                rw [Int.toNat_natCast, hlk] at h4
                exact ⟨g, c, h1, h2, h4, h5.wide (fun k h => h.1), h6⟩
            have hR10 := hRi.fr hF10 (fun h => h.2 rfl)
            have m0 : w10.cell? ⟨g, 0, none⟩ = some (.int .u8 (v.toNat : Int)) := (hM.2 0 v (by rw [List.getElem?_replicate, if_pos (by omega)])).1
            have m5 : w10.cell? ⟨g, 511, none⟩ = some (.int .u8 (v.toNat : Int)) := (hM.2 511 v (by rw [List.getElem?_replicate, if_pos (by omega)])).1
            have mq := hR10.cell hv
            have HL10 := Lib.hid hLi.count
            have HB10 := Lib.hid (hbi.trans (hF10.below (by omega) (fun k hk => by show ¬ (b ≤ k ∧ k ≠ q); omega)))
            have HR10 := Lib.hid hR10
            have HD10 := Lib.hid hD10
            clear hP hM hR10 hD10 hF10 hRi hLi hDi hbi hlk hv
            go_wp2_with fail
            go_quiet (fail)
            have hr' : RowB (w10.drewN nq) q (ls.set k f) := HR10.out
            have hd' : DiskAt (w10.drewN nq) b (fun k => b ≤ k ∧ k ≠ q) p E.count := HD10.out.below (below_drewN (Below.refl _ _) nq)
            have hb' := below_drewN HB10.out nq
            clear m0 m5 mq HR10 HD10 HB10
            generalize w10.drewN nq = w11 at hr' hd' hb' ⊢
            go_wp2_with fail
            exact ⟨⟨t + 1, _, by omega, by go_num, hr', HL10.out, hd', hb'⟩, by simp [intOf]; omega⟩
          · obtain rfl : t = 4 := by omega
            go_wp2_with fail
            exact ⟨⟨j + 1, E, ls.set k f, by omega, by go_num, by rw [List.length_set]; exact HLL.out, hRi, hLi.more (by omega), hDi, hbi⟩, by simp [intOf]; omega⟩
    · obtain rfl : j = n0 := by omega
      clear hD
      go_wp2_with fail
      go_ret
      exact ⟨rfl, hbw⟩
end Go.Proofs.Ythijobbhpbklmaa
