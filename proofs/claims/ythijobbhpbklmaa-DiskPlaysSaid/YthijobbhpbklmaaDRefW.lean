/- Layer 3's reference: Crash, the walk. -/
import Derived.Test.YthijobbhpbklmaaDRefC
namespace Go.Proofs.Ythijobbhpbklmaa
open Go.RowKit Go.Proofs.YthijobbhpbklmaaW.PrintWords Go.Proofs.Ythijobbhpbklmaa.PDiskPlays
set_option linter.unusedVariables false
set_option linter.unusedSimpArgs false

theorem C_str {w : World} {A : Option Addr} {n : Nat} {xs : List ByteArray} (h : Kd.C Kd.string w A n xs) {j : Nat} {s : ByteArray} (hj : xs[j]? = some s) : ∃ ad, A = some ad ∧ w.cell? (ad.add j) = some (.string s) := by
  obtain ⟨h1, h2, h3⟩ := h
  have hlt := (List.getElem?_eq_some_iff.1 hj).1
  obtain ⟨ad, e, hc⟩ := h3 (by omega)
  refine ⟨ad, e, ?_⟩
  obtain ⟨c, hcl, hk, hcc⟩ := hc j s hj
  have hk : c = [.string s] := hk
  subst hk
  have := hcc 0 _ rfl
  rwa [show j * Kd.string.sz + 0 = j from (by show j * 1 + 0 = j; omega)] at this
/-- A boxed disk of the reference. -/
def RBox (w : World) (g : Nat) (s l : Int) (v2 v3 : Value) (f c : Int) : Prop := w.heap[g]? = some (.cells #[.int .i64 s, .int .i64 l, v2, v3, .int .i64 f, .int .i64 c] 47 (0, 0))
section
variable {w w' : World} {g : Nat} {s l f c : Int} {v2 v3 : Value}
theorem RBox.cells (h : RBox w g s l v2 v3 f c) : w.cell? ⟨g, 0, none⟩ = some (.int .i64 s) ∧ w.cell? ⟨g, 1, none⟩ = some (.int .i64 l) ∧ w.cell? ⟨g, 2, none⟩ = some v2 ∧ w.cell? ⟨g, 3, none⟩ = some v3 ∧ w.cell? ⟨g, 4, none⟩ = some (.int .i64 f) ∧ w.cell? ⟨g, 5, none⟩ = some (.int .i64 c) :=
  ⟨blk_cell h 0, blk_cell h 1, blk_cell h 2, blk_cell h 3, blk_cell h 4, blk_cell h 5⟩
theorem RBox.free (h : RBox w g s l v2 v3 f c) (i : Nat) : w.frozen? ⟨g, i, none⟩ = false := blk_frozen h i
theorem RBox.set2 (h : RBox w g s l v2 v3 f c) (v : Value) : RBox (w.setCell ⟨g, 2, none⟩ v) g s l v v3 f c := by unfold RBox; simpa using blk_set h 2 v
end
set_option maxRecDepth 100000 in
set_option maxHeartbeats 2000000 in
theorem rcrash_any (w : World) (base : Nat) (okR : Nat → Prop) (D : Dk) (v2 v3 : Value) (h2 : Kd.R Kd.string 9 w base okR v2 (bl D.good)) (h3 : Kd.R k135 135 w base okR v3 (wl D.loose)) (hwf : D.OK) (hlo : D.loose.length ≤ 1000000000) (hbase : base ≤ w.heap.size) (ps : List UInt8) (hps : ps.length ≤ 1000000) :
    Calls Try.prog 35 #[.agg #[.int .i64 (D.size : Int), .int .i64 (D.limit : Int), v2, v3, .int .i64 D.fails, .int .i64 (D.calls : Int)], .string (bs ps)] w fun e w' => ∃ v2', e = .returned (.agg #[.int .i64 (D.size : Int), .int .i64 (D.limit : Int), v2', .slice none 0 0, .int .i64 (-1), .int .i64 (D.calls : Int)]) ∧
      Kd.R Kd.string 9 w' base (fun k => okR k ∨ w.heap.size ≤ k) v2' (bl (crashed D.good D.loose ps)) ∧ Below w.heap.size w w' := by
  obtain ⟨A3, c3, rfl, hc3, hC3⟩ := Kd.R_reads h3
  rw [wl_length] at hc3 hC3 ⊢
  have H2 := Lib.hid (Kd.R_mono h2 (fun k hk => (.inl hk : okR k ∨ w.heap.size ≤ k)))
  have HC3 := Lib.hid hC3
  have hg1 := hwf.g1
  have hl2 := hwf.l2
  have hs2 := hwf.s2
  obtain ⟨T, hT⟩ : ∃ T, D.size = T * 128 := ⟨D.size / 128, by have := hwf.s3; omega⟩
  have HT := Lib.hid hT
  have hbn := bs_size ps
  obtain ⟨n, hn⟩ : ∃ n, D.loose.length = n := ⟨_, rfl⟩
  have HN := Lib.hid hn
  rw [hn] at hc3 HC3 hlo ⊢
  obtain ⟨m, hm⟩ : ∃ m, ps.length = m := ⟨_, rfl⟩
  rw [hm] at hbn hps
  have HM := Lib.hid hm
  have HWF := Lib.hid hwf
  clear h2 h3 hC3 hT hwf hn hm
  go_enter Try.func35, Try.ntmps35
  go_wp2_with fail
  have hb2 : RBox ((w.alloc (.cells #[.int .i64 (D.size : Int), .int .i64 (D.limit : Int), v2, .slice A3 n c3, .int .i64 D.fails, .int .i64 (D.calls : Int)] 47)).alloc (.cells #[.int .i64 0, .int .i64 0, .slice none 0 0, .slice none 0 0, .int .i64 0, .int .i64 0] 47)) w.heap.size D.size D.limit v2 (.slice A3 n c3) D.fails D.calls := blk_alloc (heap_alloc_new w _) _
  have hb4 : RBox ((w.alloc (.cells #[.int .i64 (D.size : Int), .int .i64 (D.limit : Int), v2, .slice A3 n c3, .int .i64 D.fails, .int .i64 (D.calls : Int)] 47)).alloc (.cells #[.int .i64 0, .int .i64 0, .slice none 0 0, .slice none 0 0, .int .i64 0, .int .i64 0] 47)) (w.heap.size + 1) 0 0 (.slice none 0 0) (.slice none 0 0) 0 0 := by
    have := heap_alloc_new (w.alloc (.cells #[.int .i64 (D.size : Int), .int .i64 (D.limit : Int), v2, .slice A3 n c3, .int .i64 D.fails, .int .i64 (D.calls : Int)] 47)) (.cells #[.int .i64 0, .int .i64 0, .slice none 0 0, .slice none 0 0, .int .i64 0, .int .i64 0] 47)
    rwa [World.size_alloc] at this
  have hbw : Below w.heap.size w ((w.alloc (.cells #[.int .i64 (D.size : Int), .int .i64 (D.limit : Int), v2, .slice A3 n c3, .int .i64 D.fails, .int .i64 (D.calls : Int)] 47)).alloc (.cells #[.int .i64 0, .int .i64 0, .slice none 0 0, .slice none 0 0, .int .i64 0, .int .i64 0] 47)) := ((Below.refl _ w).alloc (Nat.le_refl _) _).alloc (by simp) _
  obtain ⟨b2, hb2e⟩ : ∃ b2, w.heap.size = b2 := ⟨_, rfl⟩
  have HB := Lib.hid hb2e
  rw [hb2e] at hb2 hb4 hbase H2 ⊢
  generalize ((w.alloc (.cells #[.int .i64 (D.size : Int), .int .i64 (D.limit : Int), v2, .slice A3 n c3, .int .i64 D.fails, .int .i64 (D.calls : Int)] 47)).alloc (.cells #[.int .i64 0, .int .i64 0, .slice none 0 0, .slice none 0 0, .int .i64 0, .int .i64 0] 47)) = w1 at hb2 hb4 hbw ⊢
  have hR1 := Kd.R_below H2.out hbw
  clear hb2e
  have HCR := Lib.hid (crashed_nil D.good ps)
  go_loopw [5] (fun i wr => ∃ (k : Nat) (v : Value), k ≤ n ∧ k ≤ m ∧ i = .int .i64 (k : Int) ∧ RBox wr b2 D.size D.limit v (.slice A3 n c3) D.fails D.calls ∧ RBox wr (b2 + 1) 0 0 (.slice none 0 0) (.slice none 0 0) 0 0 ∧ Hid (Kd.R Kd.string 9 wr base (fun k => okR k ∨ b2 ≤ k) v (bl (crashed D.good (D.loose.take k) ps))) ∧ Hid (Below w.heap.size w wr)) (fun i _ => n - (intOf i).toNat)
  case atStart => exact ⟨0, v2, Nat.zero_le _, Nat.zero_le _, rfl, hb2, hb4, Lib.hid (by rw [List.take_zero, HCR.out]; exact hR1), Lib.hid hbw⟩
  case round =>
    obtain ⟨wo, hwo⟩ : ∃ wo, wo = wr := ⟨_, rfl⟩
    subst hwo
    obtain ⟨k, v, hk, hkm, rfl, hX, hY, hR, hbwk⟩ := hrel
    clear hb2 hb4 hbw hR1
    obtain ⟨x0, x1, x2, x3, x4, x5⟩ := hX.cells
    have HX := Lib.hid hX
    have HY := Lib.hid hY
    clear hX hY
    have hbz : b2 + 1 < wo.heap.size := blk_lt HY.out
    by_cases hlt : k < n ∧ k < m
    · obtain ⟨hlt1, hlt2⟩ := hlt
      have d1 : decide (k < n) = true := decide_eq_true hlt1
      have d1' : decide ((k : Int) < (n : Int)) = true := decide_eq_true (by omega)
      have d2 : decide (k < m) = true := decide_eq_true hlt2
      have d2' : decide ((k : Int) < (m : Int)) = true := decide_eq_true (by omega)
      obtain ⟨x, hx⟩ : ∃ x, D.loose[k]? = some x := ⟨_, List.getElem?_eq_getElem (by rw [HN.out]; exact hlt1)⟩
      obtain ⟨ad, hA, l0, l1⟩ := at_T135 (Kd.C_below HC3.out hbwk.out) (k : Int) (by omega) (by omega)
      rw [rd_wl hx] at l0 l1
      have l0 : wo.cell? (ad.add (k * 2)) = some (.int .i64 (x.1 : Int)) := l0
      have l1 : wo.cell? ⟨(ad.add (k * 2)).block, (ad.add (k * 2)).off + 1, none⟩ = some (.string (bs x.2)) := l1
      subst hA
      have hxo := HWF.out.o1 x (List.mem_of_getElem? hx)
      obtain ⟨q, hq⟩ : ∃ q, ps[k]? = some q := ⟨_, List.getElem?_eq_getElem (by rw [HM.out]; exact hlt2)⟩
      have hqe : ∀ (h : k < (bs ps).size), ((bs ps)[k]'h).toNat = q.toNat := fun h => by
        have h2 : k < ps.length := by rw [HM.out]; exact hlt2
        rw [List.getElem?_eq_getElem h2] at hq
        injection hq with hq
        rw [← hq]
        rfl
      have HXG := Lib.hid hx
      have HQ := Lib.hid hq
      clear hx hq
      go_wp2_with fail
      have hgl : (crashed D.good (D.loose.take k) ps).length = D.good.length := crashed_length _ _ _
      have hgs := crashed_pages D.size (D.loose.take k) ps D.good HWF.out.g2 (fun y hy => (HWF.out.o1 y (List.mem_of_mem_take hy)).1)
      generalize hgg : crashed D.good (D.loose.take k) ps = gg at hR hgl hgs
      have HGG := Lib.hid hgg
      obtain ⟨old, hold⟩ : ∃ old, gg[x.1]? = some old := ⟨_, List.getElem?_eq_getElem (by rw [hgl]; exact hxo.1)⟩
      have hol := hgs old (List.mem_of_getElem? hold)
      obtain ⟨Av, cv, rfl, hcv, hCv⟩ := Kd.R_reads hR.out
      rw [bl_length, hgl] at hcv hCv hR HX x2
      obtain ⟨gn, hgn⟩ : ∃ gn, D.good.length = gn := ⟨_, rfl⟩
      have HGN := Lib.hid hgn
      rw [hgn] at hcv hCv hR HX x2 hg1 hxo
      obtain ⟨adv, hAv, cold⟩ := C_str hCv (j := x.1) (s := bs old) (by simp [bl, hold])
      subst hAv
      have hbx := heap_alloc_new wo (.cells #[.int .i64 (x.1 : Int), .string (bs x.2)] 135)
      have hXa : RBox (wo.alloc (.cells #[.int .i64 (x.1 : Int), .string (bs x.2)] 135)) b2 D.size D.limit (.slice (some adv) gn cv) (.slice (some ad) n c3) D.fails D.calls := blk_alloc HX.out _
      have hYa : RBox (wo.alloc (.cells #[.int .i64 (x.1 : Int), .string (bs x.2)] 135)) (b2 + 1) 0 0 (.slice none 0 0) (.slice none 0 0) 0 0 := blk_alloc HY.out _
      have hRa := Lib.hid (Kd.R_below hR.out ((Below.refl _ wo).alloc (Nat.le_refl _) (.cells #[.int .i64 (x.1 : Int), .string (bs x.2)] 135)))
      have hBa := Lib.hid (hbwk.out.alloc (hbwk.out.size) (.cells #[.int .i64 (x.1 : Int), .string (bs x.2)] 135))
      have hca : (wo.alloc (.cells #[.int .i64 (x.1 : Int), .string (bs x.2)] 135)).cell? (adv.add x.1) = some (.string (bs old)) := (World.cell?_alloc_lt wo _ _ (World.block_lt_of_cell? wo _ cold)).trans cold
      obtain ⟨bx, hbxe⟩ : ∃ bx, wo.heap.size = bx := ⟨_, rfl⟩
      rw [hbxe] at hbx hbz ⊢
      generalize wo.alloc (.cells #[.int .i64 (x.1 : Int), .string (bs x.2)] 135) = w2 at hbx hXa hYa hRa hBa hca ⊢
      clear x0 x1 x2 x3 x4 x5 HX HY hR hbwk hCv l0 l1 cold hbxe hgs hgg hgn
      obtain ⟨X, xb⟩ := x
      have hXn : X < gn := hxo.1
      have hxl : xb.length = D.size := hxo.2
      clear hxo
      go_loopw [7, 8] (fun s i wr => ∃ (t p : Nat), t ≤ T ∧ Hid (p = t * 128) ∧ p ≤ 4096 ∧ s = .string (bs ((mixed q old xb).take p)) ∧ i = .int .i64 (p : Int) ∧ RBox wr b2 D.size D.limit (.slice (some adv) gn cv) (.slice (some ad) n c3) D.fails D.calls ∧ RBox wr (b2 + 1) 0 0 (.slice none 0 0) (.slice none 0 0) 0 0 ∧ wr.heap[bx]? = some (.cells #[.int .i64 (X : Int), .string (bs xb)] 135 (0, 0)) ∧ wr.cell? (adv.add X) = some (.string (bs old)) ∧ Hid (Kd.R Kd.string 9 wr base (fun k => okR k ∨ b2 ≤ k) (.slice (some adv) gn cv) (bl gg)) ∧ Hid (Below w.heap.size w wr)) (fun _ i _ => 4096 - (intOf i).toNat)
      case atStart => exact ⟨0, 0, Nat.zero_le _, Lib.hid (by simp), Nat.zero_le _, rfl, rfl, hXa, hYa, hbx, hca, hRa, hBa⟩
      case round =>
        obtain ⟨wi, hwi⟩ : ∃ wi, wi = wr := ⟨_, rfl⟩
        subst hwi
        obtain ⟨t, p, ht, hp, hp4, rfl, rfl, hX, hY, hbx, hcv, hR, hbwk⟩ := hrel
        clear hXa hYa hRa hBa hca
        obtain ⟨x0, x1, x2, x3, x4, x5⟩ := hX.cells
        obtain ⟨y0, y1, _, _⟩ := blk2 hbx
        by_cases htl : t < T
        · have hpS : p + 128 ≤ D.size := by rw [HT.out, hp.out]; omega
          have e1 : decide (p < D.size) = true := decide_eq_true (by omega)
          have e1' : decide ((p : Int) < (D.size : Int)) = true := decide_eq_true (by omega)
          obtain ⟨u, hu⟩ : ∃ u, t % 8 = u := ⟨_, rfl⟩
          have hdv : (p : Int).tdiv 128 = (t : Int) := by rw [Int.tdiv_eq_ediv_of_nonneg (by omega), hp.out]; omega
          have hdv' : (p : Int) / 128 = (t : Int) := by rw [hp.out]; omega
          have hmd : (t : Int).tmod 8 = (u : Int) := by rw [Int.tmod_eq_emod_of_nonneg (by omega)]; omega
          have hmd' : (t : Int) % 8 = (u : Int) := by omega
          have ht32 : t ≤ 32 := by have := hp.out; omega
          have hbit := rubricatorref03_bit.calls (u + 1) (q.toNat : Int) (u : Int) (pickB q (t * 128)) wi (by rw [← hu]; exact r_bit q t)
          clear hu
          have holb := bs_size old
          have hxbb := bs_size xb
          rw [hol] at holb
          rw [hxl] at hxbb
          have hdl := bs_size ((mixed q old xb).take p)
          go_wp2_with fail
          refine hbit.mono ?_
          rintro e w' ⟨rfl, ⟨nd, rfl⟩⟩
          have hX' : RBox (wi.drewN nd) b2 D.size D.limit (.slice (some adv) gn cv) (.slice (some ad) n c3) D.fails D.calls := hX
          have hY' : RBox (wi.drewN nd) (b2 + 1) 0 0 (.slice none 0 0) (.slice none 0 0) 0 0 := hY
          have hbx' : (wi.drewN nd).heap[bx]? = some (.cells #[.int .i64 (X : Int), .string (bs xb)] 135 (0, 0)) := hbx
          have hcv' : (wi.drewN nd).cell? (adv.add X) = some (.string (bs old)) := hcv
          have hR' := Lib.hid (Kd.R_drewN hR.out nd)
          have hB' := Lib.hid (below_drewN hbwk.out nd)
          generalize wi.drewN nd = w3 at hX' hY' hbx' hcv' hR' hB' ⊢
          clear hX hY hbx hcv hR hbwk x0 x1 x2 x3 x4 x5 y0 y1 hbit
          obtain ⟨x0, x1, x2, x3, x4, x5⟩ := hX'.cells
          obtain ⟨y0, y1, _, _⟩ := blk2 hbx'
          have hstep := mixed_step q old xb T t (by rw [hol]; exact HT.out) (by rw [hxl]; exact HT.out) htl
          rw [Nat.add_mul, Nat.one_mul, ← hp.out] at hstep
          have hp2 : p + 128 = (t + 1) * 128 := by rw [Nat.add_mul, Nat.one_mul, hp.out]
          have HST := Lib.hid hstep
          have hpk : Hid (pickB q (t * 128) = true ∨ pickB q (t * 128) = false) := Lib.hid (by cases pickB q (t * 128) <;> simp)
          clear hstep
          rw [← hp.out] at hpk ⊢
          rcases hpk.out with hpb | hpb
          · have hsum : Value.string (bs ((mixed q old xb).take p) ++ (bs xb).extract p ((t + 1) * 128)) = .string (bs ((mixed q old xb).take (p + 128))) := by
              rw [← hp2, HST.out, if_pos hpb, bs_extract, bs_append]
            have HSUM := Lib.hid hsum
            clear hsum
            rw [hpb]
            go_wp2_with fail
            have hsum := HSUM.out
            exact ⟨⟨t + 1, p + 128, by omega, Lib.hid hp2, by omega, hsum, by go_num, hX', hY', hbx', hcv', hR', hB'⟩, by simp [intOf]; omega⟩
          · have hsum : Value.string (bs ((mixed q old xb).take p) ++ (bs old).extract p ((t + 1) * 128)) = .string (bs ((mixed q old xb).take (p + 128))) := by
              rw [← hp2, HST.out, if_neg (by rw [hpb]; simp), bs_extract, bs_append]
            have HSUM := Lib.hid hsum
            clear hsum
            rw [hpb]
            go_wp2_with fail
            have hsum := HSUM.out
            exact ⟨⟨t + 1, p + 128, by omega, Lib.hid hp2, by omega, hsum, by go_num, hX', hY', hbx', hcv', hR', hB'⟩, by simp [intOf]; omega⟩
        · obtain rfl : T = t := by omega
          have hpS : p = D.size := by rw [HT.out, hp.out]
          have hall : (mixed q old xb).take p = mixed q old xb := List.take_of_length_le (by rw [mixed_length, hol, hpS]; exact Nat.le_refl _)
          have e1 : decide (p < D.size) = false := decide_eq_false (by omega)
          have e1' : decide ((p : Int) < (D.size : Int)) = false := decide_eq_false (by omega)
          rw [hall]
          have hset := r_set (g := gg) (i := X) (by rw [hgl, HGN.out]; exact hXn) (by rw [hgl, HGN.out]; omega) (mixed q old xb)
          obtain ⟨hne, hncv, hCg⟩ := Kd.R_reads' hR.out
          have hl1 : (bl gg).length = gn := by rw [bl_length, hgl, HGN.out]
          have hcall := rubricatorref03_set.calls (some adv) cv (bl gg) (X : Int) (bs (mixed q old xb)) _ wi hCg (by rw [hl1]; exact hncv) hset
          rw [hl1] at hcall
          have HHX := Lib.hid hX
          have HHY := Lib.hid hY
          clear hX hY hcv hne hCg hset hall
          go_wp2_with fail
          refine hcall.mono ?_
          rintro e w4 ⟨v0, rfl, hR4, hb4⟩
          have hX4 : RBox w4 b2 D.size D.limit (.slice (some adv) gn cv) (.slice (some ad) n c3) D.fails D.calls := (hb4.block b2 (blk_lt HHX.out)).trans HHX.out
          have hY4 : RBox w4 (b2 + 1) 0 0 (.slice none 0 0) (.slice none 0 0) 0 0 := (hb4.block _ (blk_lt HHY.out)).trans HHY.out
          obtain ⟨_, _, z2, _⟩ := hX4.cells
          have z2f := hX4.free 2
          have hbs4 := hbwk.out.size
          have hbi : b2 ≤ wi.heap.size := by rw [← HB.out]; exact hbs4
          have hwb : b2 + 1 < wi.heap.size := blk_lt HHY.out
          have hR5 : Kd.R Kd.string 9 w4 base (fun k => (okR k ∨ b2 ≤ k) ∧ k ≠ b2) v0 (bl (gg.set X (mixed q old xb))) :=
            Kd.R_mono (Kd.R_lower (base' := base) (Kd.R_bound hR4) (by omega)) (fun k hk => by
              have h1 : wi.heap.size ≤ k := hk.2.1
              exact ⟨.inr (by omega), by omega⟩)
          obtain ⟨A5, c5, rfl, _, _⟩ := Kd.R_reads hR5
          have hl5 : (bl (gg.set X (mixed q old xb))).length = gn := by rw [bl_length, List.length_set, hgl, HGN.out]
          rw [hl5] at hR5 ⊢
          have hR6 := Lib.hid (Kd.R_mono (Kd.R_far (p := ⟨b2, 2, none⟩) hR5 (fun k hk => hk.2) (.slice A5 gn c5)) (fun k hk => hk.1))
          have hX6 := Lib.hid (hX4.set2 (.slice A5 gn c5))
          have hY6 := Lib.hid (show RBox (w4.setCell ⟨b2, 2, none⟩ (.slice A5 gn c5)) (b2 + 1) 0 0 (.slice none 0 0) (.slice none 0 0) 0 0 from blk_far hY4 (show b2 + 1 ≠ b2 by omega) _)
          have hB6 := Lib.hid ((hbwk.out.trans (hb4.mono (by rw [HB.out]; omega))).setCell (p := ⟨b2, 2, none⟩) (show w.heap.size ≤ b2 by rw [HB.out]; exact Nat.le_refl _) (.slice A5 gn c5))
          have HCS := Lib.hid (show crashed D.good (D.loose.take (k + 1)) ps = gg.set X (mixed q old xb) from by
            rw [crashed_take_succ HXG.out HQ.out, HGG.out]
            show gg.set X (mixed q (gg.getD X []) xb) = _
            rw [show gg.getD X [] = old from by rw [List.getD, hold]; rfl])
          clear hR4 hR5 hX4 hY4 hb4 hl5
          go_wp2_with fail
          exact ⟨⟨k + 1, _, by omega, by omega, by go_num, hX6.out, hY6.out, Lib.hid (by rw [HCS.out]; exact hR6.out), hB6⟩, by simp [intOf]; omega⟩
    · have hkk : k = min n m := by omega
      have HTA := Lib.hid (show crashed D.good (D.loose.take k) ps = crashed D.good D.loose ps from by
        rw [hkk, ← HN.out, ← HM.out]
        exact crashed_take_all)
      rw [HTA.out] at hR
      obtain ⟨Av, cv, rfl, hcv, _⟩ := Kd.R_reads hR.out
      have hl1 : (bl (crashed D.good D.loose ps)).length = D.good.length := by rw [bl_length, crashed_length]
      rw [hl1] at hcv hR HX x2
      have hRT := Kd.R_types (Kd.R_types hR.out HX.out (by decide)) HY.out (by decide)
      obtain ⟨z0, z1, z2, z3, z4, z5⟩ := HY.out.cells
      have zf : ∀ i, wo.frozen? ⟨b2 + 1, i, none⟩ = false := fun i => HY.out.free i
      have xf : ∀ i, wo.frozen? ⟨b2, i, none⟩ = false := fun i => HX.out.free i
      by_cases hkn : k < n
      · have d1 : decide (k < n) = true := decide_eq_true hkn
        have d1' : decide ((k : Int) < (n : Int)) = true := decide_eq_true (by omega)
        have d2 : decide (k < m) = false := decide_eq_false (by omega)
        have d2' : decide ((k : Int) < (m : Int)) = false := decide_eq_false (by omega)
        clear hlt hkk hl1
        go_wp2_with fail
        refine bodyPost_ret (v := .agg #[.int .i64 (D.size : Int), .int .i64 (D.limit : Int), .slice Av D.good.length cv, .slice none 0 0, .int .i64 (-1), .int .i64 (D.calls : Int)]) ?_ rfl ⟨_, rfl, ?_, ?_⟩
        · simp only [results, Try.results35]
          go_simp
        · rw [HB.out]
          refine Kd.R_mono (Kd.R_step hRT (fun k hk _ => ?_)) (fun k hk => hk.1.1)
          iterate 8 rw [Below.heap_setCell _ _ _ _ (by first | exact hk.1.2 | exact hk.2)]
        · refine ((((((((hbwk.out.setCell ?_ _).setCell ?_ _).setCell ?_ _).setCell ?_ _).setCell ?_ _).setCell ?_ _).setCell ?_ _).setCell ?_ _) <;> (show w.heap.size ≤ _; rw [HB.out]; dsimp only; omega)
      · have d1 : decide (k < n) = false := decide_eq_false hkn
        have d1' : decide ((k : Int) < (n : Int)) = false := decide_eq_false (by omega)
        clear hlt hkk hl1
        go_wp2_with fail
        refine bodyPost_ret (v := .agg #[.int .i64 (D.size : Int), .int .i64 (D.limit : Int), .slice Av D.good.length cv, .slice none 0 0, .int .i64 (-1), .int .i64 (D.calls : Int)]) ?_ rfl ⟨_, rfl, ?_, ?_⟩
        · simp only [results, Try.results35]
          go_simp
        · rw [HB.out]
          refine Kd.R_mono (Kd.R_step hRT (fun k hk _ => ?_)) (fun k hk => hk.1.1)
          iterate 8 rw [Below.heap_setCell _ _ _ _ (by first | exact hk.1.2 | exact hk.2)]
        · refine ((((((((hbwk.out.setCell ?_ _).setCell ?_ _).setCell ?_ _).setCell ?_ _).setCell ?_ _).setCell ?_ _).setCell ?_ _).setCell ?_ _) <;> (show w.heap.size ≤ _; rw [HB.out]; dsimp only; omega)
end Go.Proofs.Ythijobbhpbklmaa
