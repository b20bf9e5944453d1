/- DiskPlays: the reference's calls as the law meets them. -/
import Derived.Test.YthijobbhpbklmaaDPlayB
namespace Go.Proofs.Ythijobbhpbklmaa
open Go.RowKit Go.Proofs.YthijobbhpbklmaaW.PrintWords Go.Proofs.Ythijobbhpbklmaa.PDiskPlays
set_option linter.unusedVariables false
set_option linter.unusedSectionVars false
set_option linter.unusedSimpArgs false

def RefP (w0 w w' : World) (b : Nat) (okR : Nat → Prop) (v2 v3 : Value) (D : Dk) : Prop :=
  Below b w0 w' ∧ Kept w w' okR ∧ Kd.R Kd.string 9 w' b (fun k => okR k ∨ w.heap.size ≤ k) v2 (bl D.good) ∧ Kd.R k135 135 w' b (fun k => okR k ∨ w.heap.size ≤ k) v3 (wl D.loose)
section
variable {w0 w : World} {b : Nat} (hb : w0.heap.size = b) {okR : Nat → Prop} {v2 v3 : Value} {D : Dk} (h2 : Kd.R Kd.string 9 w b okR v2 (bl D.good)) (h3 : Kd.R k135 135 w b okR v3 (wl D.loose)) (hbel : Below b w0 w) (hok : D.OK) (hc : D.calls < 1000000000) (hlo : D.loose.length ≤ 1000000000)
include hb h2 h3 hbel
theorem mk_ref {w' : World} {v2' v3' : Value} {D' : Dk} (k2 : Kd.R Kd.string 9 w' w0.heap.size (fun k => ((okR k ∨ okR k) ∨ w.heap.size ≤ k)) v2' (bl D'.good)) (k3 : Kd.R k135 135 w' w0.heap.size (fun k => ((okR k ∨ okR k) ∨ w.heap.size ≤ k)) v3' (wl D'.loose)) (k4 : Below w0.heap.size w0 w') (k5 : Kept w w' (fun k => okR k ∨ okR k)) : RefP w0 w w' b okR v2' v3' D' := by
  subst hb
  exact ⟨k4, ⟨k5.1, fun i hi hn => k5.2 i hi (by rintro (h | h) <;> exact hn h)⟩, Kd.R_mono k2 (fun k hk => by rcases hk with (h | h) | h; exact .inl h; exact .inl h; exact .inr h), Kd.R_mono k3 (fun k hk => by rcases hk with (h | h) | h; exact .inl h; exact .inl h; exact .inr h)⟩
include hok hc
theorem rgrow_any (N : Int) : Calls Try.prog 32 #[.agg #[.int .i64 (D.size : Int), .int .i64 (D.limit : Int), v2, v3, .int .i64 D.fails, .int .i64 (D.calls : Int)], .int .i64 N] w fun e w' => ∃ v2' v3',
    e = .returned (.tuple #[.agg #[.int .i64 ((D.sGrow N).1.size : Int), .int .i64 ((D.sGrow N).1.limit : Int), v2', v3', .int .i64 (D.sGrow N).1.fails, .int .i64 ((D.sGrow N).1.calls : Int)], .int .i64 (D.sGrow N).2]) ∧ RefP w0 w w' b okR v2' v3' (D.sGrow N).1 := by
  obtain ⟨k, hk⟩ := r_grow hok hc N
  refine (rubricatorref03_Grow.calls k _ _ okR v2 _ okR v3 _ _ _ N _ _ _ _ _ _ _ w0 w (by rw [hb]; exact hbel) (by rw [hb]; exact h2) (by rw [hb]; exact h3) hk).mono ?_
  rintro e w' ⟨v2', v3', rfl, k2, k3, k4, k5⟩
  exact ⟨v2', v3', rfl, mk_ref hb h2 h3 hbel k2 k3 k4 k5⟩
include hlo
theorem rwrite_any (I : Int) (x : List UInt8) : Calls Try.prog 30 #[.agg #[.int .i64 (D.size : Int), .int .i64 (D.limit : Int), v2, v3, .int .i64 D.fails, .int .i64 (D.calls : Int)], .int .i64 I, .string (bs x)] w fun e w' => ∃ v2' v3',
    e = .returned (.tuple #[.agg #[.int .i64 ((D.sWrite I x).1.size : Int), .int .i64 ((D.sWrite I x).1.limit : Int), v2', v3', .int .i64 (D.sWrite I x).1.fails, .int .i64 ((D.sWrite I x).1.calls : Int)], .int .i64 (D.sWrite I x).2]) ∧ RefP w0 w w' b okR v2' v3' (D.sWrite I x).1 := by
  obtain ⟨k, hk⟩ := r_write hok hc hlo I x
  refine (rubricatorref03_Write.calls k _ _ okR v2 _ okR v3 _ _ _ I _ _ _ _ _ _ _ _ w0 w (by rw [hb]; exact hbel) (by rw [hb]; exact h2) (by rw [hb]; exact h3) hk).mono ?_
  rintro e w' ⟨v2', v3', rfl, k2, k3, k4, k5⟩
  exact ⟨v2', v3', rfl, mk_ref hb h2 h3 hbel k2 k3 k4 k5⟩
theorem rread_any (I : Int) : Calls Try.prog 31 #[.agg #[.int .i64 (D.size : Int), .int .i64 (D.limit : Int), v2, v3, .int .i64 D.fails, .int .i64 (D.calls : Int)], .int .i64 I] w fun e w' => ∃ v2' v3',
    e = .returned (.tuple #[.agg #[.int .i64 ((D.sRead I).1.size : Int), .int .i64 ((D.sRead I).1.limit : Int), v2', v3', .int .i64 (D.sRead I).1.fails, .int .i64 ((D.sRead I).1.calls : Int)], .string (bs (D.sRead I).2.1), .int .i64 (D.sRead I).2.2]) ∧ RefP w0 w w' b okR v2' v3' (D.sRead I).1 := by
  obtain ⟨k, hk⟩ := r_read hok hc hlo I
  refine (rubricatorref03_Read.calls k _ _ okR v2 _ okR v3 _ _ _ I _ _ _ _ _ _ _ _ w0 w (by rw [hb]; exact hbel) (by rw [hb]; exact h2) (by rw [hb]; exact h3) hk).mono ?_
  rintro e w' ⟨v2', v3', rfl, k2, k3, k4, k5⟩
  exact ⟨v2', v3', rfl, mk_ref hb h2 h3 hbel k2 k3 k4 k5⟩
theorem rsync_any : Calls Try.prog 33 #[.agg #[.int .i64 (D.size : Int), .int .i64 (D.limit : Int), v2, v3, .int .i64 D.fails, .int .i64 (D.calls : Int)]] w fun e w' => ∃ v2' v3',
    e = .returned (.tuple #[.agg #[.int .i64 (D.sSync.1.size : Int), .int .i64 (D.sSync.1.limit : Int), v2', v3', .int .i64 D.sSync.1.fails, .int .i64 (D.sSync.1.calls : Int)], .int .i64 D.sSync.2]) ∧ RefP w0 w w' b okR v2' v3' D.sSync.1 := by
  obtain ⟨k, hk⟩ := r_sync hok hc hlo
  refine (rubricatorref03_Sync.calls k _ _ okR v2 _ okR v3 _ _ _ _ _ _ _ _ _ _ w0 w (by rw [hb]; exact hbel) (by rw [hb]; exact h2) (by rw [hb]; exact h3) hk).mono ?_
  rintro e w' ⟨v2', v3', rfl, k2, k3, k4, k5⟩
  exact ⟨v2', v3', rfl, mk_ref hb h2 h3 hbel k2 k3 k4 k5⟩
omit hok hc hlo
theorem rfail_any (a : Int) : Calls Try.prog 34 #[.agg #[.int .i64 (D.size : Int), .int .i64 (D.limit : Int), v2, v3, .int .i64 D.fails, .int .i64 (D.calls : Int)], .int .i64 a] w fun e w' => ∃ v2' v3',
    e = .returned (.agg #[.int .i64 ((D.failed a).size : Int), .int .i64 ((D.failed a).limit : Int), v2', v3', .int .i64 (D.failed a).fails, .int .i64 ((D.failed a).calls : Int)]) ∧ RefP w0 w w' b okR v2' v3' (D.failed a) := by
  refine (rubricatorref03_Fail.calls _ _ okR v2 _ okR v3 _ _ _ a _ _ _ _ _ _ w0 w (by rw [hb]; exact hbel) (by rw [hb]; exact h2) (by rw [hb]; exact h3) (r_fail D a)).mono ?_
  rintro e w' ⟨v2', v3', rfl, k2, k3, k4, k5⟩
  exact ⟨v2', v3', rfl, mk_ref hb h2 h3 hbel k2 k3 k4 k5⟩
include hok hlo
theorem rcrash_ref (ps : List UInt8) (hps : ps.length ≤ 1000000) (hbs : b ≤ w.heap.size) : Calls Try.prog 35 #[.agg #[.int .i64 (D.size : Int), .int .i64 (D.limit : Int), v2, v3, .int .i64 D.fails, .int .i64 (D.calls : Int)], .string (bs ps)] w fun e w' => ∃ v2' v3',
    e = .returned (.agg #[.int .i64 ((D.crash ps).size : Int), .int .i64 ((D.crash ps).limit : Int), v2', v3', .int .i64 (D.crash ps).fails, .int .i64 ((D.crash ps).calls : Int)]) ∧ RefP w0 w w' b okR v2' v3' (D.crash ps) := by
  refine (rcrash_any w b okR D v2 v3 h2 h3 hok hlo hbs ps hps).mono ?_
  rintro e w' ⟨v2', rfl, k2, k3⟩
  exact ⟨v2', _, rfl, hbel.trans (k3.mono hbs), ⟨k3.size, fun i hi _ => k3.block i hi⟩, k2, Kd.R_nil _ _ _ _ _⟩
end
theorem rfrom_ok (w0 w : World) (b : Nat) (hb : w0.heap.size = b) (hbel : Below b w0 w) (hbs : b ≤ w.heap.size) {size limit : Nat} (h : NewOk (size : Int) (limit : Int)) (l : List UInt8) (h1 : l.length % size = 0) (h2 : l.length / size ≤ limit) (hl : l.length ≤ 1000000) :
    Calls Try.prog 29 #[.string (bs l), .int .i64 (size : Int), .int .i64 (limit : Int)] w fun e w' => ∃ v2' v3', e = .returned (.tuple #[.agg #[.int .i64 (size : Int), .int .i64 (limit : Int), v2', v3', .int .i64 (-1), .int .i64 0], .int .i64 0]) ∧ RefP w0 w w' b (fun _ => False) v2' v3' (dFrom size limit l) := by
  obtain ⟨k, hk⟩ := r_from_ok h l h1 h2 hl
  refine (rubricatorref03_From.calls k _ _ _ _ _ _ _ _ _ _ w hk).mono ?_
  rintro e w' ⟨v2', v3', rfl, k2, k3, k4⟩
  refine ⟨v2', v3', rfl, hbel.trans (k4.mono hbs), ⟨k4.size, fun i hi _ => k4.block i hi⟩, ?_, ?_⟩
  · exact Kd.R_mono (Kd.R_lower (base' := b) (Kd.R_bound k2) hbs) (fun k hk => .inr hk.2.1)
  · exact Kd.R_mono (Kd.R_lower (base' := b) (Kd.R_bound k3) hbs) (fun k hk => .inr hk.2.1)
theorem rfrom_no (w : World) {S L : Int} (l : List UInt8) (hl : l.length ≤ 1000000) (h : ¬ (NewOk S L ∧ (l.length : Int) % S = 0 ∧ (l.length : Int) / S ≤ L)) :
    Calls Try.prog 29 #[.string (bs l), .int .i64 S, .int .i64 L] w fun e w' => ∃ v2' v3', e = .returned (.tuple #[.agg #[.int .i64 0, .int .i64 0, v2', v3', .int .i64 0, .int .i64 0], .int .i64 1]) ∧ (∃ A c, v2' = .slice A 0 c) ∧ (∃ A c, v3' = .slice A 0 c) ∧ Below w.heap.size w w' := by
  obtain ⟨k, hk⟩ := r_from_no l hl h
  refine (rubricatorref03_From.calls k _ _ _ _ _ _ _ _ _ _ w hk).mono ?_
  rintro e w' ⟨v2', v3', rfl, k2, k3, k4⟩
  obtain ⟨A2, c2, e2, _⟩ := Kd.R_reads k2
  obtain ⟨A3, c3, e3, _⟩ := Kd.R_reads k3
  exact ⟨v2', v3', rfl, ⟨A2, c2, e2⟩, ⟨A3, c3, e3⟩, k4⟩
/-- full, whatever comes. -/
theorem full_all (w : World) (size : Nat) (h0 : 0 < size) (h1 : size ≤ 1000000) (B : Nat) (A : Option Addr) (n c : Nat) (b : List UInt8) (hb : Sl w B A n c b) (hB : B ≤ w.heap.size) (hn2 : n ≤ 9223372036854775807) (odd : Bool) :
    Calls Try.prog 22 #[.int .i64 (size : Int), .slice A n c, .bool odd] w fun e w' => ∃ m, e = .returned (.slice (some ⟨w.heap.size, 0, none⟩) m size) ∧ m ≤ size ∧ RowB w' w.heap.size (fullB size b) ∧ Below w.heap.size w w' := by
  rcases Nat.eq_zero_or_pos n with h | h
  · subst h
    obtain rfl : b = [] := List.eq_nil_of_length_eq_zero hb.len
    cases odd with
    | false => exact (full_none w size h0 h1 A c).mono fun e w' hh => ⟨size, hh.1, Nat.le_refl _, hh.2⟩
    | true => exact (full_none_odd w size h0 h1 A c).mono fun e w' hh => ⟨size - 1, hh.1, Nat.sub_le _ _, hh.2⟩
  · cases odd with
    | false => exact (full_is w size h0 h1 B A n c b hb hB h hn2).mono fun e w' hh => ⟨size, hh.1, Nat.le_refl _, hh.2⟩
    | true => exact (full_odd w size h0 h1 B A n c b hb hB h hn2).mono fun e w' hh => ⟨size - 1, hh.1, Nat.sub_le _ _, hh.2⟩
theorem RowB.pre {w : World} {g : Nat} {l : List UInt8} (h : RowB w g l) {m c : Nat} (hm : m ≤ l.length) (hc : m ≤ c) : Sl w w.heap.size (some ⟨g, 0, none⟩) m c (l.take m) :=
  ⟨⟨by rw [bv_length, List.length_take]; omega, fun _ => ⟨_, rfl, h.lt, fun i u hu => by
    rw [add_plain, Nat.zero_add]
    simp only [bv, List.getElem?_map, Option.map_eq_some_iff] at hu
    obtain ⟨q, hq, rfl⟩ := hu
    rw [List.getElem?_take] at hq
    split at hq
    · exact h.cell hq
    · cases hq⟩⟩, by rw [List.length_take]; omega, hc, fun h => by cases h⟩
theorem RBox.all {w : World} {g : Nat} {s l f c s' l' f' c' : Int} {v2 v3 v2' v3' : Value} (h : RBox w g s l v2 v3 f c) :
    RBox ((((((w.setCell ⟨g, 0, none⟩ (.int .i64 s')).setCell ⟨g, 1, none⟩ (.int .i64 l')).setCell ⟨g, 2, none⟩ v2').setCell ⟨g, 3, none⟩ v3').setCell ⟨g, 4, none⟩ (.int .i64 f')).setCell ⟨g, 5, none⟩ (.int .i64 c')) g s' l' v2' v3' f' c' := by
  unfold RBox
  have := blk_set (blk_set (blk_set (blk_set (blk_set (blk_set h 0 (.int .i64 s')) 1 (.int .i64 l')) 2 v2') 3 v3') 4 (.int .i64 f')) 5 (.int .i64 c')
  simpa using this
theorem DSt.set6 {w0 w : World} {b p : Nat} {okD okR : Nat → Prop} {D : Dk} {v2 v3 : Value} (h : DSt w0 w b p okD okR D v2 v3) {g : Nat} (hg : ¬ okD g) (hg2 : ¬ okR g) (hgb : b ≤ g) (a0 a1 a2 a3 a4 a5 : Value) :
    DSt w0 ((((((w.setCell ⟨g, 0, none⟩ a0).setCell ⟨g, 1, none⟩ a1).setCell ⟨g, 2, none⟩ a2).setCell ⟨g, 3, none⟩ a3).setCell ⟨g, 4, none⟩ a4).setCell ⟨g, 5, none⟩ a5) b p okD okR D v2 v3 :=
  (((((h.set hg hg2 hgb 0 a0).set hg hg2 hgb 1 a1).set hg hg2 hgb 2 a2).set hg hg2 hgb 3 a3).set hg hg2 hgb 4 a4).set hg hg2 hgb 5 a5
/-- The loop's own: the boxed model, and the counts. -/
structure DLoop (w0 w : World) (b p g s j : Nat) : Prop where
  ex : ∃ (okD okR : Nat → Prop) (D : Dk) (v2 v3 : Value), DSt w0 w b p okD okR D v2 v3 ∧ D.size = s ∧ D.calls ≤ j ∧ D.loose.length ≤ j ∧ RBox w g D.size D.limit v2 v3 D.fails D.calls ∧ ¬ okD g ∧ ¬ okR g ∧ b ≤ g
theorem sGrow_le (D : Dk) (N : Int) {s j : Nat} (hs : D.size = s) (hc : D.calls ≤ j) (hl : D.loose.length ≤ j) : (D.sGrow N).1.size = s ∧ (D.sGrow N).1.calls ≤ j + 1 ∧ (D.sGrow N).1.loose.length ≤ j + 1 := by
  unfold Dk.sGrow
  split
  · exact ⟨hs, by show D.calls ≤ _; omega, by show D.loose.length ≤ _; omega⟩
  split
  · exact ⟨hs, by show D.calls ≤ _; omega, by show D.loose.length ≤ _; omega⟩
  split
  · exact ⟨hs, by show D.calls + 1 ≤ _; omega, by show D.loose.length ≤ _; omega⟩
  · exact ⟨hs, by show D.calls + 1 ≤ _; omega, by show D.loose.length ≤ _; omega⟩
theorem sWrite_le (D : Dk) (I : Int) (x : List UInt8) {s j : Nat} (hs : D.size = s) (hc : D.calls ≤ j) (hl : D.loose.length ≤ j) : (D.sWrite I x).1.size = s ∧ (D.sWrite I x).1.calls ≤ j + 1 ∧ (D.sWrite I x).1.loose.length ≤ j + 1 := by
  unfold Dk.sWrite
  split
  · split
    · split
      · exact ⟨hs, by show D.calls + 1 ≤ _; omega, by show D.loose.length ≤ _; omega⟩
      · exact ⟨hs, by show D.calls + 1 ≤ _; omega, by show (D.loose ++ [_]).length ≤ _; rw [List.length_append, List.length_singleton]; omega⟩
    · exact ⟨hs, by show D.calls ≤ _; omega, by show D.loose.length ≤ _; omega⟩
  · exact ⟨hs, by show D.calls ≤ _; omega, by show D.loose.length ≤ _; omega⟩
theorem sRead_le (D : Dk) (I : Int) {s j : Nat} (hs : D.size = s) (hc : D.calls ≤ j) (hl : D.loose.length ≤ j) : (D.sRead I).1.size = s ∧ (D.sRead I).1.calls ≤ j + 1 ∧ (D.sRead I).1.loose.length ≤ j + 1 := by
  unfold Dk.sRead
  split
  · split
    · exact ⟨hs, by show D.calls + 1 ≤ _; omega, by show D.loose.length ≤ _; omega⟩
    · exact ⟨hs, by show D.calls + 1 ≤ _; omega, by show D.loose.length ≤ _; omega⟩
  · exact ⟨hs, by show D.calls ≤ _; omega, by show D.loose.length ≤ _; omega⟩
theorem sSync_le (D : Dk) {s j : Nat} (hs : D.size = s) (hc : D.calls ≤ j) (hl : D.loose.length ≤ j) : D.sSync.1.size = s ∧ D.sSync.1.calls ≤ j + 1 ∧ D.sSync.1.loose.length ≤ j + 1 := by
  unfold Dk.sSync
  split
  · exact ⟨hs, by show D.calls + 1 ≤ _; omega, by show D.loose.length ≤ _; omega⟩
  · exact ⟨hs, by show D.calls + 1 ≤ _; omega, Nat.zero_le _⟩
end Go.Proofs.Ythijobbhpbklmaa
