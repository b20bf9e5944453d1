/- Layer 8: a space, by values and in memory; Usable, End, Fresh, Take, Give. -/
import Derived.Test.YthijobbhpbklmaaSLow
import Derived.BigQuiet
namespace Go.Proofs.Ythijobbhpbklmaa
open Go.RowKit Go.Maps
set_option linter.unusedVariables false
set_option linter.unusedSimpArgs false

theorem MSet.drop_ {w : World} {b : Nat} {S : List Nat} (h : MSet w b S) : True := trivial
/-- A space. -/
structure Sp where
  fin : Nat
  lim : Nat
  wait : List (Nat × List Nat)
  us : List Nat
  fr : List Nat
  gn : List Nat
  hd : List Nat
structure Sp.OK (S : Sp) : Prop where
  e1 : 2 ≤ S.fin
  e2 : S.fin ≤ S.lim
  e3 : S.lim ≤ 65536
  u1 : ∀ p ∈ S.us, 2 ≤ p ∧ p < S.fin
  f1 : ∀ p ∈ S.fr, 2 ≤ p ∧ p < S.fin
  g1 : ∀ p ∈ S.gn, 2 ≤ p ∧ p < S.fin
  h1 : ∀ p ∈ S.hd, 2 ≤ p ∧ p < S.fin
  uf : ∀ p ∈ S.us, p ∉ S.fr
  ug : ∀ p ∈ S.us, p ∉ S.gn
  uh : ∀ p ∈ S.us, p ∉ S.hd
  fg : ∀ p ∈ S.fr, p ∉ S.gn
  fh : ∀ p ∈ S.fr, p ∉ S.hd
  gh : ∀ p ∈ S.gn, p ∉ S.hd
  un : S.us.Nodup
  fn : S.fr.Nodup
  gd : S.gn.Nodup
  hn : S.hd.Nodup
/-- A set of pages below 65536 without doubles isn't long. -/
theorem nodup_len : ∀ {m : Nat} {l : List Nat}, l.Nodup → (∀ p ∈ l, p < m) → l.length ≤ m := by
  intro m
  induction m with
  | zero =>
    intro l _ hm
    cases l with
    | nil => exact Nat.le_refl _
    | cons x l => exact absurd (hm x List.mem_cons_self) (by omega)
  | succ m ih =>
    intro l hn hm
    by_cases h : m ∈ l
    · have h1 := ih (l := l.erase m) (hn.erase m) (fun p hp => by
        obtain ⟨hne, hp⟩ := (hn.mem_erase_iff).1 hp
        have := hm p hp
        omega)
      rw [List.length_erase_of_mem h] at h1
      omega
    · have := ih hn (fun p hp => by
        have h1 := hm p hp
        have : p ≠ m := fun e => h (e ▸ hp)
        omega)
      omega
/-- The block of a space. -/
def SBlk (w : World) (p : Nat) (e l : Nat) (Wv : Value) (bu bf bg bh : Nat) : Prop :=
  w.heap[p]? = some (.cells #[.int .u32 (e : Int), .int .u32 (l : Int), Wv, .map (some bu), .map (some bf), .map (some bg), .map (some bh)] 143 (0, 0))
section
variable {w w' : World} {p e l bu bf bg bh : Nat} {Wv : Value}
theorem SBlk.cells (h : SBlk w p e l Wv bu bf bg bh) : w.cell? ⟨p, 0, none⟩ = some (.int .u32 (e : Int)) ∧ w.cell? ⟨p, 1, none⟩ = some (.int .u32 (l : Int)) ∧ w.cell? ⟨p, 2, none⟩ = some Wv ∧ w.cell? ⟨p, 3, none⟩ = some (.map (some bu)) ∧ w.cell? ⟨p, 4, none⟩ = some (.map (some bf)) ∧ w.cell? ⟨p, 5, none⟩ = some (.map (some bg)) ∧ w.cell? ⟨p, 6, none⟩ = some (.map (some bh)) :=
  ⟨blk_cell h 0, blk_cell h 1, blk_cell h 2, blk_cell h 3, blk_cell h 4, blk_cell h 5, blk_cell h 6⟩
theorem SBlk.free (h : SBlk w p e l Wv bu bf bg bh) (i : Nat) : w.frozen? ⟨p, i, none⟩ = false := blk_frozen h i
theorem SBlk.set0 (h : SBlk w p e l Wv bu bf bg bh) (e' : Nat) : SBlk (w.setCell ⟨p, 0, none⟩ (.int .u32 (e' : Int))) p e' l Wv bu bf bg bh := by unfold SBlk; simpa using blk_set h 0 (.int .u32 (e' : Int))
theorem SBlk.set2 (h : SBlk w p e l Wv bu bf bg bh) (Wv' : Value) : SBlk (w.setCell ⟨p, 2, none⟩ Wv') p e l Wv' bu bf bg bh := by unfold SBlk; simpa using blk_set h 2 Wv'
end
/-- Rows of records that wait. -/
def WRow (w : World) (base : Nat) (ok : Nat → Prop) (v : Value) (rs : List (Nat × List Nat)) : Prop :=
  ∃ (A : Option Addr) (c : Nat) (cs : List Value), v = .slice A rs.length c ∧ w.ownsRow base 101 2 v rs.length cs ∧ (∀ k, v.ownBlock = some k → ok k) ∧ ∀ (i : Nat) (r : Nat × List Nat), rs[i]? = some r → ∃ A' n' c', cs[i * 2]? = some (.int .u64 (r.1 : Int)) ∧ cs[i * 2 + 1]? = some (.slice A' n' c') ∧ w.ownsRow base 73 1 (.slice A' n' c') n' (r.2.map encP) ∧ ∀ k, (Value.slice A' n' c').ownBlock = some k → ok k
structure SAt (w : World) (base : Nat) (ok : Nat → Prop) (p : Nat) (S : Sp) (Wv : Value) (bu bf bg bh : Nat) : Prop where
  blk : SBlk w p S.fin S.lim Wv bu bf bg bh
  bp : base ≤ p
  okp : ok p
  row : WRow w base ok Wv S.wait
  su : MSet w bu S.us
  sf : MSet w bf S.fr
  sg : MSet w bg S.gn
  sh : MSet w bh S.hd
  b1 : base ≤ bu ∧ base ≤ bf ∧ base ≤ bg ∧ base ≤ bh
  o1 : ok bu ∧ ok bf ∧ ok bg ∧ ok bh
  d1 : bu ≠ bf ∧ bu ≠ bg ∧ bu ≠ bh ∧ bf ≠ bg ∧ bf ≠ bh ∧ bg ≠ bh
  wf : S.OK
def SpAt (w : World) (base : Nat) (ok : Nat → Prop) (p : Nat) (S : Sp) : Prop := ∃ Wv bu bf bg bh, SAt w base ok p S Wv bu bf bg bh
theorem own_move_ {w w' : World} {base : Nat} {e : TypeId} {size n : Nat} {v : Value} {xs : List Value} (h : w.ownsRow base e size v n xs) (hk : ∀ (g : Nat) (C : Array Value), v.ownBlock = some g → w.heap[g]? = some (.cells C e (0, 0)) → w'.heap[g]? = w.heap[g]?) : w'.ownsRow base e size v n xs := by
  obtain ⟨h1, h2⟩ := h
  refine ⟨h1, ?_⟩
  rcases h2 with h2 | ⟨g, cap, cur, hv, hg, hh, r⟩
  · exact Or.inl h2
  · exact Or.inr ⟨g, cap, cur, hv, hg, (hk g _ (by rw [hv]; rfl) hh).trans hh, r⟩
section
variable {w w' : World} {base p : Nat} {ok ok' : Nat → Prop} {S : Sp} {Wv : Value} {bu bf bg bh : Nat}
theorem WRow.move {v : Value} {rs : List (Nat × List Nat)} (h : WRow w base ok v rs) (hk : ∀ (g : Nat) (C : Array Value) (t : TypeId), ok g → w.heap[g]? = some (.cells C t (0, 0)) → (t = 101 ∨ t = 73) → w'.heap[g]? = w.heap[g]? ∧ ok' g) : WRow w' base ok' v rs := by
  obtain ⟨A, c, cs, e, ho, hb, hr⟩ := h
  have hbk : ∀ k, v.ownBlock = some k → ∃ C, w.heap[k]? = some (.cells C 101 (0, 0)) := fun k hk' => by
    rcases ho.2 with ⟨hv, _⟩ | ⟨g, cap, cur, hv, _, hh, _⟩
    · rw [hv] at hk'; simp [Value.ownBlock] at hk'
    · rw [hv] at hk'
      obtain rfl : g = k := by simpa [Value.ownBlock] using hk'
      exact ⟨_, hh⟩
  refine ⟨A, c, cs, e, own_move_ ho (fun g C hv hg => (hk g C _ (hb g hv) hg (.inl rfl)).1), fun k hv => ?_, fun i r hi => ?_⟩
  · obtain ⟨C, hC⟩ := hbk k hv
    exact (hk k C _ (hb k hv) hC (.inl rfl)).2
  · obtain ⟨A', n', c', h1, h2, h3, h4⟩ := hr i r hi
    refine ⟨A', n', c', h1, h2, own_move_ h3 (fun g C hv hg => (hk g C _ (h4 g hv) hg (.inr rfl)).1), fun k hv => ?_⟩
    rcases h3.2 with ⟨hv', _⟩ | ⟨g, cap, cur, hv', _, hh, _⟩
    · rw [hv'] at hv; simp [Value.ownBlock] at hv
    · rw [hv'] at hv
      obtain rfl : g = k := by simpa [Value.ownBlock] using hv
      exact (hk g _ _ (h4 g (by rw [hv']; rfl)) hh (.inr rfl)).2
theorem SAt.move (h : SAt w base ok p S Wv bu bf bg bh) (hk : ∀ k, k < w.heap.size → ok k → w'.heap[k]? = w.heap[k]? ∧ ok' k) : SAt w' base ok' p S Wv bu bf bg bh :=
  ⟨(hk p (blk_lt h.blk) h.okp).1.trans h.blk, h.bp, (hk p (blk_lt h.blk) h.okp).2, h.row.move (fun g C t ho hg _ => hk g (blk_lt hg) ho), h.su.block (hk _ h.su.lt h.o1.1).1, h.sf.block (hk _ h.sf.lt h.o1.2.1).1, h.sg.block (hk _ h.sg.lt h.o1.2.2.1).1, h.sh.block (hk _ h.sh.lt h.o1.2.2.2).1, h.b1,
    ⟨(hk _ h.su.lt h.o1.1).2, (hk _ h.sf.lt h.o1.2.1).2, (hk _ h.sg.lt h.o1.2.2.1).2, (hk _ h.sh.lt h.o1.2.2.2).2⟩, h.d1, h.wf⟩
theorem SpAt.move (h : SpAt w base ok p S) (hk : ∀ k, k < w.heap.size → ok k → w'.heap[k]? = w.heap[k]? ∧ ok' k) : SpAt w' base ok' p S := by
  obtain ⟨Wv, bu, bf, bg, bh, h⟩ := h
  exact ⟨Wv, bu, bf, bg, bh, h.move hk⟩
theorem SpAt.below (h : SpAt w base ok p S) (hb : Below w.heap.size w w') : SpAt w' base ok p S := h.move fun k hk ho => ⟨hb.block k hk, ho⟩
theorem SpAt.wf (h : SpAt w base ok p S) : S.OK := by
  obtain ⟨_, _, _, _, _, h⟩ := h
  exact h.wf
/-! what only reads -/
theorem send_any (h : SpAt w base ok p S) : Calls Try.prog 49 #[.pointer (some ⟨p, 0, none⟩)] w fun e w' => e = .returned (.int .u32 (S.fin : Int)) ∧ w = w' := by
  obtain ⟨Wv, bu, bf, bg, bh, h⟩ := h
  obtain ⟨c0, _⟩ := h.blk.cells
  go_enter Try.func49, Try.ntmps49
  go_wp2
  go_ret
  exact ⟨rfl, rfl⟩
theorem susable_any (h : SpAt w base ok p S) : Calls Try.prog 53 #[.pointer (some ⟨p, 0, none⟩)] w fun e w' => e = .returned (.int .i64 (S.us.length : Int)) ∧ w = w' := by
  obtain ⟨Wv, bu, bf, bg, bh, h⟩ := h
  obtain ⟨_, _, _, c3, _⟩ := h.blk.cells
  obtain ⟨nn, D0, hown, hsz⟩ := h.su.len_run
  go_enter Try.func53, Try.ntmps53
  go_wp2_with (first | (at_len; refine wpList_len_own _ rfl _ 141 rfl 73 108 Try.underlying141 _ bu nn D0 rfl hown ?_; rw [hsz]))
  go_ret
  exact ⟨rfl, rfl⟩
theorem sfresh_any (h : SpAt w base ok p S) (q : Nat) (hq : q < 4294967296) : Calls Try.prog 48 #[.pointer (some ⟨p, 0, none⟩), .int .u32 (q : Int)] w fun e w' => e = .returned (.bool (decide (q ∈ S.fr))) ∧ Below w.heap.size w w' := by
  obtain ⟨Wv, bu, bf, bg, bh, h⟩ := h
  obtain ⟨_, _, _, _, c4, _⟩ := h.blk.cells
  have hh := has_any w bf S.fr h.sf q hq
  go_enter Try.func48, Try.ntmps48
  go_wp2_with fail
  refine hh.mono ?_
  rintro e w1 ⟨rfl, hb1⟩
  go_wp2_with fail
  go_ret
  exact ⟨rfl, hb1⟩
end
end Go.Proofs.Ythijobbhpbklmaa
