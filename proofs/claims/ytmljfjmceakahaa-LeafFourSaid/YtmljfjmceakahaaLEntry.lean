/- leaf.entry: a cell is read. -/
import Derived.Test.YtmljfjmceakahaaLPut
import Derived.Test.YtmljfjmceakahaaBGet
import Derived.Test.YtmljfjmceakahaaKb
import Derived.Deep.DeepCutAuto
import Derived.StillTailTactics
namespace Go.Proofs.Ytmljfjmceakahaa
open Go.RowKit
set_option linter.unusedVariables false
set_option linter.unusedSimpArgs false

theorem IsR.setCell {w : World} {g q : Nat} {l : List UInt8} {e : Int} (h : IsR w g l e) (hq : g < q) (i : Nat) (u : Value) : IsR (w.setCell ⟨q, i, none⟩ u) g l e := by
  obtain ⟨A, n, c, h1, h2⟩ := h
  exact ⟨A, n, c, blk_far h1 (by simp; omega) u, h2.keep fun k hk => Below.heap_setCell _ _ _ _ (by simp; omega)⟩
theorem blk_at {w w1 : World} {g k : Nat} {o : Obj} (h : w.heap[k]? = some o) (hA : At g w w1) (hk : k ≠ g) : w1.heap[k]? = some o :=
  (hA.block k (blk_lt h) (fun e => by injection e with e; exact hk e)).trans h
theorem cell4f {w : World} {g : Nat} {t : TypeId} {a b c d : Value} (h : w.heap[g]? = some (.cells #[a, b, c, d] t (0, 0))) :
    w.frozen? ⟨g, 0, none⟩ = false ∧ w.frozen? ⟨g, 1, none⟩ = false ∧ w.frozen? ⟨g, 2, none⟩ = false ∧ w.frozen? ⟨g, 3, none⟩ = false := ⟨blk_frozen h 0, blk_frozen h 1, blk_frozen h 2, blk_frozen h 3⟩

theorem set4 {w : World} {g : Nat} {t : TypeId} {a b c d : Value} (h : w.heap[g]? = some (.cells #[a, b, c, d] t (0, 0))) (a' b' c' d' : Value) :
    ((((w.setCell ⟨g, 0, none⟩ a').setCell ⟨g, 1, none⟩ b').setCell ⟨g, 2, none⟩ c').setCell ⟨g, 3, none⟩ d').heap[g]? = some (.cells #[a', b', c', d'] t (0, 0)) := by
  have h1 := blk_set (blk_set (blk_set (blk_set h 0 a') 1 b') 2 c') 3 d'
  simpa using h1
/-- Each cell behind its own store. -/
theorem step4 {w : World} {g : Nat} {t : TypeId} {a b c d : Value} (h : w.heap[g]? = some (.cells #[a, b, c, d] t (0, 0))) (a' b' c' d' : Value) :
    (w.setCell ⟨g, 0, none⟩ a').cell? ⟨g, 0, none⟩ = some a' ∧ ((w.setCell ⟨g, 0, none⟩ a').setCell ⟨g, 1, none⟩ b').cell? ⟨g, 1, none⟩ = some b' ∧ (((w.setCell ⟨g, 0, none⟩ a').setCell ⟨g, 1, none⟩ b').setCell ⟨g, 2, none⟩ c').cell? ⟨g, 2, none⟩ = some c' ∧
    ((((w.setCell ⟨g, 0, none⟩ a').setCell ⟨g, 1, none⟩ b').setCell ⟨g, 2, none⟩ c').setCell ⟨g, 3, none⟩ d').cell? ⟨g, 3, none⟩ = some d' := by
  have h1 := blk_set h 0 a'
  have h2 := blk_set h1 1 b'
  have h3 := blk_set h2 2 c'
  have h4 := blk_set h3 3 d'
  exact ⟨by simpa using blk_cell h1 0, by simpa using blk_cell h2 1, by simpa using blk_cell h3 2, by simpa using blk_cell h4 3⟩
theorem below4 {B : Nat} {W w : World} {g : Nat} (h : Below B W w) (hg : B ≤ g) (a b c d : Value) : Below B W ((((w.setCell ⟨g, 0, none⟩ a).setCell ⟨g, 1, none⟩ b).setCell ⟨g, 2, none⟩ c).setCell ⟨g, 3, none⟩ d) :=
  (((h.setCell (p := ⟨g, 0, none⟩) hg a).setCell (p := ⟨g, 1, none⟩) hg b).setCell (p := ⟨g, 2, none⟩) hg c).setCell (p := ⟨g, 3, none⟩) hg d
theorem own4 {w : World} {base : Nat} {e : TypeId} {size n : Nat} {v : Value} {xs : List Value} (h : w.ownsRow base e size v n xs) {g : Nat} (hne : some g ≠ v.ownBlock) (a b c d : Value) :
    ((((w.setCell ⟨g, 0, none⟩ a).setCell ⟨g, 1, none⟩ b).setCell ⟨g, 2, none⟩ c).setCell ⟨g, 3, none⟩ d).ownsRow base e size v n xs :=
  own_setCell (own_setCell (own_setCell (own_setCell h (p := ⟨g, 0, none⟩) hne a) (p := ⟨g, 1, none⟩) hne b) (p := ⟨g, 2, none⟩) hne c) (p := ⟨g, 3, none⟩) hne d
theorem cEnt_ok (m : Bs) : (cEnt m).ok := by
  unfold cEnt LE.ok
  split
  · exact ⟨(by decide : (0 : Nat) < 4294967296), (by decide : (-9223372036854775808 : Int) ≤ 0), (by decide : (0 : Int) ≤ 9223372036854775807)⟩
  · have h1 : cLong m < 256 ^ 4 := Nat.lt_of_lt_of_le (be_lt _) (Nat.pow_le_pow_right (by decide) (takeL_len _ _ _))
    have h2 : cFirst m < 256 ^ 4 := Nat.lt_of_lt_of_le (be_lt _) (Nat.pow_le_pow_right (by decide) (takeL_len _ _ _))
    exact ⟨(by simpa using h2 : cFirst m < 4294967296), (by omega : (-9223372036854775808 : Int) ≤ (cLong m : Int)), (by have : cLong m < 4294967296 := (by simpa using h1); omega : (cLong m : Int) ≤ 9223372036854775807)⟩

/-- What entry gives. -/
def LEP (m : Bs) (w : World) (r : Ending) (w' : World) : Prop :=
  ∃ Ak nk ck Av nv cv, r = .returned (.tuple #[lVal (cEnt m) Ak nk ck Av nv cv, .int .i64 (cErr m)]) ∧ w'.ownsRow w.heap.size 5 1 (.slice Ak nk ck) nk (bv (cEnt m).key) ∧ w'.ownsRow w.heap.size 5 1 (.slice Av nv cv) nv (bv (cEnt m).val) ∧ Below w.heap.size w w'

/-- What entry leaves: the struct at p is what came of the reading. -/
theorem LEP.mk {m : Bs} {w W : World} {Ak : Option Addr} {nk ck : Nat} {Av : Option Addr} {nv cv : Nat} {l : Int} {f : Nat} {x : Int} (he : cEnt m = ⟨(cEnt m).key, (cEnt m).val, l, f⟩) (hx : cErr m = x)
    (hk : W.ownsRow w.heap.size 5 1 (.slice Ak nk ck) nk (bv (cEnt m).key)) (hv : W.ownsRow w.heap.size 5 1 (.slice Av nv cv) nv (bv (cEnt m).val)) (hb : Below w.heap.size w W) :
    LEP m w (.returned (.tuple #[.agg #[.slice Ak nk ck, .slice Av nv cv, .int .i64 l, .int .u32 (f : Int)], .int .i64 x])) W := by
  have hl : (cEnt m).long = l := by rw [he]
  have hf : (cEnt m).first = f := by rw [he]
  subst hx hl hf
  exact ⟨Ak, nk, ck, Av, nv, cv, rfl, hk, hv, hb⟩

abbrev zObj : Obj := .cells #[.slice none 0 0, .slice none 0 0, .int .i64 0, .int .u32 0] 70

set_option maxRecDepth 100000 in
set_option maxHeartbeats 2000000 in
theorem lentry_any (w : World) (B : Nat) (A : Option Addr) (n c : Nat) (m : Bs) (h : Sl w B A n c m) (hBw : B ≤ w.heap.size) (hn : n ≤ 4096) :
    Calls Try.prog 58 #[.slice A n c] w (LEP m w) := by
  have hml : m.length ≤ 4096 := by rw [h.len]; exact hn
  have hb0 : Below w.heap.size w (w.alloc zObj) := (Below.refl _ _).alloc (Nat.le_refl _) _
  have hz0 := heap_alloc_new w zObj
  have HZ0 := Lib.hid hz0
  have hs0 := h.below ((Below.refl B w).alloc hBw zObj)
  clear hz0
  go_enter Try.func58, Try.ntmps58
  go_wp2_with fail
  refine (new_r _ _ _ _ _ _ hs0 (by omega)).mono ?_
  rintro r w1 ⟨g, rfl, hR1, hg1, hb1'⟩
  have hb1 := hb0.trans (hb1'.mono hb0.size)
  have hz1 := blk_below HZ0.out hb1' (blk_lt HZ0.out)
  have hpg : w.heap.size < g := by have := blk_lt HZ0.out; omega
  clear hb1' HZ0 hs0 hb0
  go_wp2_with fail
  have hb2 := hb1.alloc hb1.size zObj
  have hR2 := hR1.below ((Below.refl w1.heap.size w1).alloc (Nat.le_refl _) zObj) hR1.lt
  have hz2 := blk_alloc hz1 zObj
  have hx2 := heap_alloc_new w1 zObj
  have hgq := hR1.lt
  obtain ⟨q, hq⟩ : ∃ q, w1.heap.size = q := ⟨_, rfl⟩
  have hpz := hb1.size
  rw [hq] at hx2 hgq hpz ⊢
  clear hR1 hz1 hb1 hq
  generalize w1.alloc zObj = W2 at hb2 hR2 hz2 hx2 ⊢
  have hpq : w.heap.size ≠ q := by omega
  have hpgn : w.heap.size ≠ g := by omega
  have hqgn : q ≠ g := by omega
  have hpW := blk_lt hz2
  -- n := r.Num(1)
  refine (rnum_i _ _ _ _ _ hR2 (by omega) (by omega)).mono ?_
  rintro r w3 ⟨n1, rfl, hn1, hn1b, hR3, hA3⟩
  have HN1 : Hid (n1 = cN1 m) := Lib.hid hn1.out
  have hn1l : n1 ≤ 255 := by have : n1 < 256 ^ 1 := hn1b; omega
  have hR3 : IsR w3 g (cM1 m) (cE1 m) := hR3
  have hb3 := hb2.trans (hA3.below (by omega) hb2.size)
  have hz3 := blk_at hz2 hA3 hpgn
  have hx3 := blk_at hx2 hA3 hqgn
  have hm1 : (cM1 m).length ≤ 4096 := Nat.le_trans (takeR_le _ _ _) hml
  clear hn1 hn1b hA3 hR2 hb2 hz2 hx2
  go_wp2_with fail
  refine (rraw_any _ _ _ _ n1 hR3 (by omega)).mono ?_
  rintro r w4 ⟨A4, n4, c4, rfl, hown4, hR4, hA4⟩
  rw [HN1.out] at hown4 hR4
  have hown4 : w4.ownsRow w3.heap.size 5 1 (.slice A4 n4 c4) n4 (bv (cKey m)) := hown4
  have hR4 : IsR w4 g (cM2 m) (cE2 m) := hR4
  have hb4 := hb3.trans (hA4.below (by omega) hb3.size)
  have hz4 := blk_at hz3 hA4 hpgn
  have hx4 := blk_at hx3 hA4 hqgn
  have ho4 := own_weaken hown4 hb3.size
  have hm2 : (cM2 m).length ≤ 4096 := Nat.le_trans (takeR_le _ _ _) hm1
  obtain ⟨x40, x41, x42, x43⟩ := cell4 hx4
  obtain ⟨f40, _, _, _⟩ := cell4f hx4
  clear hA4 hR3 hb3 hz3 hx3 hown4
  go_upto_region 5 with fail
  have hx5 : (w4.setCell ⟨q, 0, none⟩ (.slice A4 n4 c4)).heap[q]? = some (.cells #[.slice A4 n4 c4, .slice none 0 0, .int .i64 0, .int .u32 0] 70 (0, 0)) := by simpa using blk_set hx4 0 (.slice A4 n4 c4)
  have hz5 : (w4.setCell ⟨q, 0, none⟩ (.slice A4 n4 c4)).heap[w.heap.size]? = _ := blk_far hz4 (p := ⟨q, 0, none⟩) hpq (.slice A4 n4 c4)
  have hR5 := hR4.setCell hgq 0 (.slice A4 n4 c4)
  have hb5 := hb4.setCell (p := ⟨q, 0, none⟩) hpz (.slice A4 n4 c4)
  have ho5 := own_setCell ho4 (p := ⟨q, 0, none⟩) (own_neF ho4 hx4 (by decide)) (.slice A4 n4 c4)
  generalize w4.setCell ⟨q, 0, none⟩ (.slice A4 n4 c4) = W5 at hx5 hz5 hR5 hb5 ho5 ⊢
  clear x40 x41 x42 x43 f40 hx4 hz4 hR4 hb4 ho4
  go_wp2_with fail
  refine (rnum_i _ _ _ _ _ hR5 (by omega) (by omega)).mono ?_
  rintro r w6 ⟨kd, rfl, hkd, hkdb, hR6, hA6⟩
  have HKD : Hid (kd = cKind m) := Lib.hid hkd.out
  have hR6 : IsR w6 g (cM3 m) (cE3 m) := hR6
  have hb6 := hb5.trans (hA6.below (by omega) hb5.size)
  have hz6 := blk_at hz5 hA6 hpgn
  have hx6 := blk_at hx5 hA6 hqgn
  have ho6 := own_at_r ho5 hA6 hR5 (by decide)
  have hm3 : (cM3 m).length ≤ 4096 := Nat.le_trans (takeR_le _ _ _) hm2
  clear hkd hkdb hA6 hR5 hb5 hz5 hx5 ho5
  by_cases hk0 : kd = 0
  · have HK0 : Hid (cKind m = 0) := Lib.hid (by rw [← HKD.out]; exact hk0)
    subst hk0
    clear HKD
    go_wp2_with fail
    refine (rnum_i _ _ _ _ _ hR6 (by omega) (by omega)).mono ?_
    rintro r w7 ⟨n2, rfl, hn2, hn2b, hR7, hA7⟩
    have HN2 : Hid (n2 = cNv m) := Lib.hid hn2.out
    have hn2l : n2 ≤ 65535 := by have : n2 < 256 ^ 2 := hn2b; omega
    have hR7 : IsR w7 g (cM4 m) (cE4 m) := hR7
    have hb7 := hb6.trans (hA7.below (by omega) hb6.size)
    have hz7 := blk_at hz6 hA7 hpgn
    have hx7 := blk_at hx6 hA7 hqgn
    have ho7 := own_at_r ho6 hA7 hR6 (by decide)
    have hm4 : (cM4 m).length ≤ 4096 := Nat.le_trans (takeR_le _ _ _) hm3
    clear hn2 hn2b hA7 hR6 hb6 hz6 hx6 ho6
    go_wp2_with fail
    refine (rraw_any _ _ _ _ n2 hR7 (by omega)).mono ?_
    rintro r w8 ⟨A8, n8, c8, rfl, hown8, hR8, hA8⟩
    rw [HN2.out] at hown8 hR8
    have hown8 : w8.ownsRow w7.heap.size 5 1 (.slice A8 n8 c8) n8 (bv (cVal m)) := hown8
    have hR8 : IsR w8 g _ (cE5 m) := hR8
    have hb8 := hb7.trans (hA8.below (by omega) hb7.size)
    have hz8 := blk_at hz7 hA8 hpgn
    have hx8 := blk_at hx7 hA8 hqgn
    have ho8 := own_at_r ho7 hA8 hR7 (by decide)
    have hv8 := own_weaken hown8 hb7.size
    obtain ⟨x80, x81, x82, x83⟩ := cell4 hx8
    obtain ⟨_, f81, _, _⟩ := cell4f hx8
    clear hA8 hR7 hb7 hz7 hx7 hown8 ho7
    go_upto_region 10 with fail
    have hx9 : (w8.setCell ⟨q, 1, none⟩ (.slice A8 n8 c8)).heap[q]? = some (.cells #[.slice A4 n4 c4, .slice A8 n8 c8, .int .i64 0, .int .u32 0] 70 (0, 0)) := by simpa using blk_set hx8 1 (.slice A8 n8 c8)
    have hz9 : (w8.setCell ⟨q, 1, none⟩ (.slice A8 n8 c8)).heap[w.heap.size]? = _ := blk_far hz8 (p := ⟨q, 1, none⟩) hpq (.slice A8 n8 c8)
    have hR9 := hR8.setCell hgq 1 (.slice A8 n8 c8)
    have hb9 := hb8.setCell (p := ⟨q, 1, none⟩) hpz (.slice A8 n8 c8)
    have ho9 := own_setCell ho8 (p := ⟨q, 1, none⟩) (own_neF ho8 hx8 (by decide)) (.slice A8 n8 c8)
    have hv9 := own_setCell hv8 (p := ⟨q, 1, none⟩) (own_neF hv8 hx8 (by decide)) (.slice A8 n8 c8)
    generalize w8.setCell ⟨q, 1, none⟩ (.slice A8 n8 c8) = W9 at hx9 hz9 hR9 hb9 ho9 hv9 ⊢
    clear x80 x81 x82 x83 f81 hx8 hz8 hR8 hb8 ho8 hv8
    obtain ⟨y0, y1, y2, y3⟩ := cell4 hx9
    obtain ⟨z0, z1, z2, z3⟩ := cell4 hz9
    obtain ⟨g0, g1, g2, g3⟩ := cell4f hz9
    have hcE : cEnt m = ⟨cKey m, cVal m, 0, 0⟩ := if_pos HK0.out
    have hcX : cErr m = cE5 m := if_pos HK0.out
    have hR9d := hR9.below ((Below.refl W9.heap.size W9).drew) hR9.lt
    refine wp_still_tail 3 (by kernel_rfl) (by kernel_rfl) ?_
    simp only [List.take_succ_cons, List.take_zero, List.drop_succ_cons, List.drop_zero]
    still_step
    still_step
    still_call ((err_any _ _ _ _ hR9d).mono fun e w'' hh => ⟨hh.1, hh.2.symm⟩)
    refine wpStill_nil ?_
    go_wp2_with fail
    obtain ⟨r0, r1, r2, r3⟩ := step4 hz9 (.slice A4 n4 c4) (.slice A8 n8 c8) (.int .i64 0) (.int .u32 0)
    have hbz := below4 (w := W9.drew) hb9.drew (Nat.le_refl w.heap.size) (.slice A4 n4 c4) (.slice A8 n8 c8) (.int .i64 0) (.int .u32 0)
    have hne1 := own_neF ho9 hz9 (by decide)
    have hne2 := own_neF hv9 hz9 (by decide)
    have hok := own4 (w := W9.drew) ho9 hne1 (.slice A4 n4 c4) (.slice A8 n8 c8) (.int .i64 0) (.int .u32 0)
    have hov := own4 (w := W9.drew) hv9 hne2 (.slice A4 n4 c4) (.slice A8 n8 c8) (.int .i64 0) (.int .u32 0)
    have hfin := LEP.mk (m := m) (l := 0) (f := 0) (x := (cE5 m)) (by rw [hcE]) hcX (by rw [hcE]; exact hok) (by rw [hcE]; exact hov) hbz
    exact bodyPost_ret (v := .tuple #[.agg #[(.slice A4 n4 c4), (.slice A8 n8 c8), (.int .i64 0), (.int .u32 0)], .int .i64 (cE5 m)]) (by simp [results, Try.results58, go_sem, r0, r1, r2, r3]) rfl hfin
  · have HK0 : Hid (¬ cKind m = 0) := Lib.hid (by rw [← HKD.out]; exact hk0)
    have hkb : ((kd : Int) == 0) = false := by simp; exact hk0
    clear HKD
    go_wp2_with fail
    clear hkb
    refine (rnum_i _ _ _ _ _ hR6 (by omega) (by omega)).mono ?_
    rintro r w7 ⟨lo, rfl, hlo, hlob, hR7, hA7⟩
    have HLO : Hid (lo = cLong m) := Lib.hid hlo.out
    have hlol : lo ≤ 4294967295 := by have : lo < 256 ^ 4 := hlob; omega
    have hR7 : IsR w7 g (cM6 m) (cE6 m) := hR7
    have hb7 := hb6.trans (hA7.below (by omega) hb6.size)
    have hz7 := blk_at hz6 hA7 hpgn
    have hx7 := blk_at hx6 hA7 hqgn
    have ho7 := own_at_r ho6 hA7 hR6 (by decide)
    obtain ⟨x70, x71, x72, x73⟩ := cell4 hx7
    obtain ⟨_, _, f72, _⟩ := cell4f hx7
    clear hlo hlob hA7 hR6 hb6 hz6 hx6 ho6
    go_upto_region 9 with fail
    have hx8 : (w7.setCell ⟨q, 2, none⟩ (.int .i64 (lo : Int))).heap[q]? = some (.cells #[.slice A4 n4 c4, .slice none 0 0, .int .i64 (lo : Int), .int .u32 0] 70 (0, 0)) := by simpa using blk_set hx7 2 (.int .i64 (lo : Int))
    have hz8 : (w7.setCell ⟨q, 2, none⟩ (.int .i64 (lo : Int))).heap[w.heap.size]? = _ := blk_far hz7 (p := ⟨q, 2, none⟩) hpq (.int .i64 (lo : Int))
    have hR8 := hR7.setCell hgq 2 (.int .i64 (lo : Int))
    have hb8 := hb7.setCell (p := ⟨q, 2, none⟩) hpz (.int .i64 (lo : Int))
    have ho8 := own_setCell ho7 (p := ⟨q, 2, none⟩) (own_neF ho7 hx7 (by decide)) (.int .i64 (lo : Int))
    generalize w7.setCell ⟨q, 2, none⟩ (.int .i64 (lo : Int)) = W8 at hx8 hz8 hR8 hb8 ho8 ⊢
    clear x70 x71 x72 x73 f72 hx7 hz7 hR7 hb7 ho7
    go_wp2_with fail
    refine (rnum_i _ _ _ _ _ hR8 (by omega) (by omega)).mono ?_
    rintro r w10 ⟨fi, rfl, hfi, hfib, hR10, hA10⟩
    have HFI : Hid (fi = cFirst m) := Lib.hid hfi.out
    have hfil : fi ≤ 4294967295 := by have : fi < 256 ^ 4 := hfib; omega
    have hR10 : IsR w10 g _ (cE7 m) := hR10
    have hb10 := hb8.trans (hA10.below (by omega) hb8.size)
    have hz10 := blk_at hz8 hA10 hpgn
    have hx10 := blk_at hx8 hA10 hqgn
    have ho10 := own_at_r ho8 hA10 hR8 (by decide)
    obtain ⟨x100, x101, x102, x103⟩ := cell4 hx10
    obtain ⟨_, _, _, f103⟩ := cell4f hx10
    have hfw : IntKind.u32.wrap (fi : Int) = (fi : Int) := IntWalk.u32_in _ (by omega)
    clear hfi hfib hA10 hR8 hb8 hz8 hx8 ho8
    go_upto_region 10 with fail
    have hx9 : (w10.setCell ⟨q, 3, none⟩ (.int .u32 (fi : Int))).heap[q]? = some (.cells #[.slice A4 n4 c4, .slice none 0 0, .int .i64 (lo : Int), .int .u32 (fi : Int)] 70 (0, 0)) := by simpa using blk_set hx10 3 (.int .u32 (fi : Int))
    have hz9 : (w10.setCell ⟨q, 3, none⟩ (.int .u32 (fi : Int))).heap[w.heap.size]? = _ := blk_far hz10 (p := ⟨q, 3, none⟩) hpq (.int .u32 (fi : Int))
    have hR9 := hR10.setCell hgq 3 (.int .u32 (fi : Int))
    have hb9 := hb10.setCell (p := ⟨q, 3, none⟩) hpz (.int .u32 (fi : Int))
    have ho9 := own_setCell ho10 (p := ⟨q, 3, none⟩) (own_neF ho10 hx10 (by decide)) (.int .u32 (fi : Int))
    have hv9 : (w10.setCell ⟨q, 3, none⟩ (.int .u32 (fi : Int))).ownsRow w.heap.size 5 1 (.slice none 0 0) 0 (bv []) := World.ownsRow_nil _ _ _ _
    generalize w10.setCell ⟨q, 3, none⟩ (.int .u32 (fi : Int)) = W9 at hx9 hz9 hR9 hb9 ho9 hv9 ⊢
    clear x100 x101 x102 x103 f103 hx10 hz10 hR10 hb10 ho10 hfw
    obtain ⟨y0, y1, y2, y3⟩ := cell4 hx9
    obtain ⟨z0, z1, z2, z3⟩ := cell4 hz9
    obtain ⟨g0, g1, g2, g3⟩ := cell4f hz9
    have hcE : cEnt m = ⟨cKey m, [], lo, fi⟩ := by rw [HLO.out, HFI.out]; exact if_neg HK0.out
    have hcX : cErr m = cE7 m := if_neg HK0.out
    have HCE := Lib.hid hcE
    have HCX := Lib.hid hcX
    clear hcE hcX
    have hR9d := hR9.below ((Below.refl W9.heap.size W9).drew) hR9.lt
    refine wp_still_tail 3 (by kernel_rfl) (by kernel_rfl) ?_
    simp only [List.take_succ_cons, List.take_zero, List.drop_succ_cons, List.drop_zero]
    still_step
    still_step
    still_call ((err_any _ _ _ _ hR9d).mono fun e w'' hh => ⟨hh.1, hh.2.symm⟩)
    refine wpStill_nil ?_
    go_wp2_with fail
    obtain ⟨r0, r1, r2, r3⟩ := step4 hz9 (.slice A4 n4 c4) (.slice none 0 0) (.int .i64 (lo : Int)) (.int .u32 (fi : Int))
    have hbz := below4 (w := W9.drew) hb9.drew (Nat.le_refl w.heap.size) (.slice A4 n4 c4) (.slice none 0 0) (.int .i64 (lo : Int)) (.int .u32 (fi : Int))
    have hne1 := own_neF ho9 hz9 (by decide)
    have hne2 := own_neF hv9 hz9 (by decide)
    have hok := own4 (w := W9.drew) ho9 hne1 (.slice A4 n4 c4) (.slice none 0 0) (.int .i64 (lo : Int)) (.int .u32 (fi : Int))
    have hov := own4 (w := W9.drew) hv9 hne2 (.slice A4 n4 c4) (.slice none 0 0) (.int .i64 (lo : Int)) (.int .u32 (fi : Int))
    have hfin := LEP.mk (m := m) (l := (lo : Int)) (f := fi) (x := (cE7 m)) (by rw [HCE.out]) HCX.out (by rw [HCE.out]; exact hok) (by rw [HCE.out]; exact hov) hbz
    exact bodyPost_ret (v := .tuple #[.agg #[(.slice A4 n4 c4), (.slice none 0 0), (.int .i64 (lo : Int)), (.int .u32 (fi : Int))], .int .i64 (cE7 m)]) (by simp [results, Try.results58, go_sem, r0, r1, r2, r3]) rfl hfin

end Go.Proofs.Ytmljfjmceakahaa
