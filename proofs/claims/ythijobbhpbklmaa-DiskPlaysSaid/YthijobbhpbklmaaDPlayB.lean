/- DiskPlays: From that fails; the state of the law. -/
import Derived.Test.YthijobbhpbklmaaDPlayA
namespace Go.Proofs.Ythijobbhpbklmaa
open Go.RowKit Go.Proofs.YthijobbhpbklmaaW.PrintWords Go.Proofs.Ythijobbhpbklmaa.PDiskPlays
set_option linter.unusedVariables false
set_option linter.unusedSimpArgs false

theorem dfrom_no (w : World) (A : Option Addr) (N c : Nat) (hN : N ≤ 1000000) (S L : Int) (h : ¬ (NewOk S L ∧ (N : Int) % S = 0 ∧ (N : Int) / S ≤ L)) :
    Calls Try.prog 28 #[.slice A N c, .int .i64 S, .int .i64 L] w fun e w' => e = .returned (.tuple #[.pointer none, .int .i64 1]) ∧ Below w.heap.size w w' := by
  by_cases hn : NewOk S L
  · obtain ⟨s, rfl⟩ := Int.eq_ofNat_of_zero_le (show 0 ≤ S by have := hn.1; omega)
    obtain ⟨m, rfl⟩ := Int.eq_ofNat_of_zero_le (show 0 ≤ L by have := hn.2.2.2.1; omega)
    have hnew := dnew_blk w s m hn
    obtain ⟨h1, h2, h3, h4, h5⟩ := hn
    have hnz : ¬ (s : Int) = 0 := by omega
    obtain ⟨r, hr⟩ : ∃ r : Nat, N % s = r := ⟨_, rfl⟩
    obtain ⟨q, hq⟩ : ∃ q : Nat, N / s = q := ⟨_, rfl⟩
    have hqN : q ≤ N := by rw [← hq]; exact Nat.div_le_self _ _
    have hre : (N : Int) % (s : Int) = (r : Int) := by rw [← hr]; rfl
    have hqe : (N : Int) / (s : Int) = (q : Int) := by rw [← hq]; rfl
    have hrem : (N : Int).tmod (s : Int) = (r : Int) := by rw [Int.tmod_eq_emod_of_nonneg (by omega)]; exact hre
    have hquo : (N : Int).tdiv (s : Int) = (q : Int) := by rw [Int.tdiv_eq_ediv_of_nonneg (by omega)]; exact hqe
    by_cases hr0 : r = 0
    · subst hr0
      have hq1 : m < q := by
        rw [hre, hqe] at h
        rcases Nat.lt_or_ge m q with c | c
        · exact c
        · exact absurd ⟨⟨h1, h2, h3, h4, h5⟩, rfl, by omega⟩ h
      have d1 : decide (m < q) = true := decide_eq_true hq1
      have d1' : decide ((m : Int) < (q : Int)) = true := decide_eq_true (by omega)
      clear h hr hq
      go_enter Try.func28, Try.ntmps28
      go_wp2_with (first | (go_at_call 15; refine hnew.mono ?_; rintro e w1 ⟨rfl, hD1, hb1⟩))
      go_ret2
      exact ⟨rfl, hb1.alloc hb1.size _⟩
    · have d1 : ((r : Int) == 0) = false := by simp [hr0]
      have d2 : (r == 0) = false := by simp [hr0]
      clear h hr hq
      go_enter Try.func28, Try.ntmps28
      go_wp2_with (first | (go_at_call 15; refine hnew.mono ?_; rintro e w1 ⟨rfl, hD1, hb1⟩))
      go_ret2
      exact ⟨rfl, hb1.alloc hb1.size _⟩
  · have hnew := dnew_no w S L hn
    clear h hn
    go_enter Try.func28, Try.ntmps28
    go_wp2_with (first | (go_at_call 15; refine hnew.mono ?_; rintro e w1 ⟨rfl, rfl⟩))
    go_ret2
    exact ⟨rfl, (Below.refl _ _).alloc (Nat.le_refl _) _⟩

/-- What the law keeps: the disk, the reference's rows, apart from each other. -/
structure DSt (w0 w : World) (b p : Nat) (okD okR : Nat → Prop) (D : Dk) (v2 v3 : Value) : Prop where
  disk : DiskAt w b okD p D
  r2 : Kd.R Kd.string 9 w b okR v2 (bl D.good)
  r3 : Kd.R k135 135 w b okR v3 (wl D.loose)
  dis : ∀ k, okR k → ¬ okD k
  frD : ∀ k, w.heap.size ≤ k → okD k
  bd : ∀ k, k < b → ¬ okD k
  bs_ : b ≤ w.heap.size
  bel : Below b w0 w
theorem DiskAt.wf' {w : World} {base p : Nat} {ok : Nat → Prop} {D : Dk} (h : DiskAt w base ok p D) : D.OK := by
  obtain ⟨_, _, _, _, h⟩ := h
  exact h.wf
theorem DiskAt.bp' {w : World} {base p : Nat} {ok : Nat → Prop} {D : Dk} (h : DiskAt w base ok p D) : p < w.heap.size ∧ ok p := by
  obtain ⟨_, _, _, _, h⟩ := h
  exact ⟨h.blk.lt, h.okp⟩
section
variable {w0 w w' : World} {b p : Nat} {okD okR : Nat → Prop} {D D' : Dk} {v2 v3 v2' v3' : Value}
/-- What is new is the law's own. -/
theorem DSt.below (h : DSt w0 w b p okD okR D v2 v3) (hb : Below w.heap.size w w') : DSt w0 w' b p (fun k => okD k ∧ (k < w.heap.size ∨ w'.heap.size ≤ k)) okR D v2 v3 :=
  ⟨h.disk.other fun k hk ho => ⟨hb.block k hk, ho, .inl hk⟩, Kd.R_below h.r2 hb, Kd.R_below h.r3 hb, fun k hk ho => h.dis k hk ho.1, fun k hk => ⟨h.frD k (Nat.le_trans hb.size hk), .inr hk⟩, fun k hk ho => h.bd k hk ho.1, Nat.le_trans h.bs_ hb.size, h.bel.trans (hb.mono h.bs_)⟩
/-- A store into a block of the law's own. -/
theorem DSt.set (h : DSt w0 w b p okD okR D v2 v3) {g : Nat} (hg : ¬ okD g) (hg2 : ¬ okR g) (hgb : b ≤ g) (i : Nat) (u : Value) : DSt w0 (w.setCell ⟨g, i, none⟩ u) b p okD okR D v2 v3 :=
  ⟨h.disk.other fun k _ ho => ⟨Below.heap_setCell _ _ _ _ (fun e => hg (by have e : k = g := e; rw [← e]; exact ho)), ho⟩, Kd.R_far h.r2 (fun k hk e => hg2 (by have e : k = g := e; rw [← e]; exact hk)) u, Kd.R_far h.r3 (fun k hk e => hg2 (by have e : k = g := e; rw [← e]; exact hk)) u, h.dis, fun k hk => h.frD k (by simpa using hk), h.bd, by simpa using h.bs_, h.bel.setCell hgb u⟩
/-- The program has done something. -/
theorem DSt.prog (h : DSt w0 w b p okD okR D v2 v3) (hD : DiskAt w' b okD p D') (hF : Fr okD w w') : DiskAt w' b okD p D' ∧ Kd.R Kd.string 9 w' b okR v2 (bl D.good) ∧ Kd.R k135 135 w' b okR v3 (wl D.loose) ∧ b ≤ w'.heap.size ∧ Below b w0 w' ∧ (∀ k, w'.heap.size ≤ k → okD k) :=
  ⟨hD, Kd.R_step h.r2 (fun k hk hl => hF.2.2.2.2 k hl (h.dis k hk)), Kd.R_step h.r3 (fun k hk hl => hF.2.2.2.2 k hl (h.dis k hk)), Nat.le_trans h.bs_ hF.size, h.bel.trans (hF.below h.bs_ h.bd), fun k hk => h.frD k (Nat.le_trans hF.size hk)⟩
/-- The reference has done something. -/
theorem DSt.refer (hD : DiskAt w b okD p D') (hdis : ∀ k, okR k → ¬ okD k) (hbd : ∀ k, k < b → ¬ okD k) (hfr : ∀ k, w.heap.size ≤ k → okD k) (hbs : b ≤ w.heap.size) (hbel : Below b w0 w')
    {P : Nat → Prop} (hP : ∀ k, P k → okR k ∨ w.heap.size ≤ k) (hK : Kept w w' okR) (h2 : Kd.R Kd.string 9 w' b P v2' (bl D'.good)) (h3 : Kd.R k135 135 w' b P v3' (wl D'.loose)) :
    DSt w0 w' b p (fun k => okD k ∧ (k < w.heap.size ∨ w'.heap.size ≤ k)) (fun k => okR k ∨ (w.heap.size ≤ k ∧ k < w'.heap.size)) D' v2' v3' := by
  have hR : ∀ k, (P k ∧ k < w'.heap.size) → okR k ∨ (w.heap.size ≤ k ∧ k < w'.heap.size) := fun k hk => by
    rcases hP k hk.1 with h | h
    · exact .inl h
    · exact .inr ⟨h, hk.2⟩
  refine ⟨hD.other fun k hk ho => ⟨hK.2 k hk (fun hr => hdis k hr ho), ho, .inl hk⟩, Kd.R_mono (Kd.R_bound h2) (fun k hk => hR k ⟨hk.1, hk.2.2.1⟩), Kd.R_mono (Kd.R_bound h3) (fun k hk => hR k ⟨hk.1, hk.2.2.1⟩), ?_, fun k hk => ⟨hfr k (Nat.le_trans hK.1 hk), .inr hk⟩, fun k hk ho => hbd k hk ho.1, Nat.le_trans hbs hK.1, hbel⟩
  rintro k (hk | hk) ⟨ho, hl⟩
  · exact hdis k hk ho
  · omega
end
end Go.Proofs.Ythijobbhpbklmaa
