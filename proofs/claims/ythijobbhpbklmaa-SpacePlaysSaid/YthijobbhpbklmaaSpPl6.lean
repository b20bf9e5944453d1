/- Space; STake; SGive; SRec; SRightS; SNewP; SNewQ -/
import Derived.Test.YthijobbhpbklmaaSpPl2
import Derived.BigQuiet
import Derived.Deep.QuietTactic
/- Layer 8: a space, by values and in memory; Usable, End, Fresh, Take, Give. -/
namespace Go.Proofs.Ythijobbhpbklmaa
open Go.RowKit Go.Maps
set_option linter.unusedVariables false
set_option linter.unusedSimpArgs false

/-- A space. -/
structure Sp where
  fin : Nat
  lim : Nat
  wait : List (Nat × List Nat)
  us : List Nat
  fr : List Nat
  gn : List Nat
  hd : List Nat
structure Sp.OK (S : Sp) : Prop where
  e1 : 2 ≤ S.fin
  e2 : S.fin ≤ S.lim
  e3 : S.lim ≤ 65536
  u1 : ∀ p ∈ S.us, 2 ≤ p ∧ p < S.fin
  f1 : ∀ p ∈ S.fr, 2 ≤ p ∧ p < S.fin
  g1 : ∀ p ∈ S.gn, 2 ≤ p ∧ p < S.fin
  h1 : ∀ p ∈ S.hd, 2 ≤ p ∧ p < S.fin
  uf : ∀ p ∈ S.us, p ∉ S.fr
  ug : ∀ p ∈ S.us, p ∉ S.gn
  uh : ∀ p ∈ S.us, p ∉ S.hd
  fg : ∀ p ∈ S.fr, p ∉ S.gn
  fh : ∀ p ∈ S.fr, p ∉ S.hd
  gh : ∀ p ∈ S.gn, p ∉ S.hd
  un : S.us.Nodup
  fn : S.fr.Nodup
  gd : S.gn.Nodup
  hn : S.hd.Nodup
/-- A set of pages below 65536 without doubles isn't long. -/
theorem nodup_len : ∀ {m : Nat} {l : List Nat}, l.Nodup → (∀ p ∈ l, p < m) → l.length ≤ m := by
  intro m
  induction m with
  | zero =>
    intro l _ hm
    cases l with
    | nil => exact Nat.le_refl _
    | cons x l => exact absurd (hm x List.mem_cons_self) (by omega)
  | succ m ih =>
    intro l hn hm
    by_cases h : m ∈ l
    · have h1 := ih (l := l.erase m) (hn.erase m) (fun p hp => by
        obtain ⟨hne, hp⟩ := (hn.mem_erase_iff).1 hp
        have := hm p hp
        omega)
      rw [List.length_erase_of_mem h] at h1
      omega
    · have := ih hn (fun p hp => by
        have h1 := hm p hp
        have : p ≠ m := fun e => h (e ▸ hp)
        omega)
      omega
/-- The block of a space. -/
def SBlk (w : World) (p : Nat) (e l : Nat) (Wv : Value) (bu bf bg bh : Nat) : Prop :=
  w.heap[p]? = some (.cells #[.int .u32 (e : Int), .int .u32 (l : Int), Wv, .map (some bu), .map (some bf), .map (some bg), .map (some bh)] 143 (0, 0))
section
variable {w w' : World} {p e l bu bf bg bh : Nat} {Wv : Value}
theorem SBlk.cells (h : SBlk w p e l Wv bu bf bg bh) : w.cell? ⟨p, 0, none⟩ = some (.int .u32 (e : Int)) ∧ w.cell? ⟨p, 1, none⟩ = some (.int .u32 (l : Int)) ∧ w.cell? ⟨p, 2, none⟩ = some Wv ∧ w.cell? ⟨p, 3, none⟩ = some (.map (some bu)) ∧ w.cell? ⟨p, 4, none⟩ = some (.map (some bf)) ∧ w.cell? ⟨p, 5, none⟩ = some (.map (some bg)) ∧ w.cell? ⟨p, 6, none⟩ = some (.map (some bh)) :=
  ⟨blk_cell h 0, blk_cell h 1, blk_cell h 2, blk_cell h 3, blk_cell h 4, blk_cell h 5, blk_cell h 6⟩
theorem SBlk.free (h : SBlk w p e l Wv bu bf bg bh) (i : Nat) : w.frozen? ⟨p, i, none⟩ = false := blk_frozen h i
theorem SBlk.set0 (h : SBlk w p e l Wv bu bf bg bh) (e' : Nat) : SBlk (w.setCell ⟨p, 0, none⟩ (.int .u32 (e' : Int))) p e' l Wv bu bf bg bh := by unfold SBlk; simpa using blk_set h 0 (.int .u32 (e' : Int))
theorem SBlk.set2 (h : SBlk w p e l Wv bu bf bg bh) (Wv' : Value) : SBlk (w.setCell ⟨p, 2, none⟩ Wv') p e l Wv' bu bf bg bh := by unfold SBlk; simpa using blk_set h 2 Wv'
end
/-- Rows of records that wait. -/
def WRow (w : World) (base : Nat) (ok : Nat → Prop) (v : Value) (rs : List (Nat × List Nat)) : Prop :=
  ∃ (A : Option Addr) (c : Nat) (cs : List Value), v = .slice A rs.length c ∧ w.ownsRow base 101 2 v rs.length cs ∧ (∀ k, v.ownBlock = some k → ok k) ∧ ∀ (i : Nat) (r : Nat × List Nat), rs[i]? = some r → ∃ A' n' c', cs[i * 2]? = some (.int .u64 (r.1 : Int)) ∧ cs[i * 2 + 1]? = some (.slice A' n' c') ∧ w.ownsRow base 73 1 (.slice A' n' c') n' (r.2.map encP) ∧ ∀ k, (Value.slice A' n' c').ownBlock = some k → ok k
structure SAt (w : World) (base : Nat) (ok : Nat → Prop) (p : Nat) (S : Sp) (Wv : Value) (bu bf bg bh : Nat) : Prop where
  blk : SBlk w p S.fin S.lim Wv bu bf bg bh
  bp : base ≤ p
  okp : ok p
  row : WRow w base ok Wv S.wait
  su : MSet w bu S.us
  sf : MSet w bf S.fr
  sg : MSet w bg S.gn
  sh : MSet w bh S.hd
  b1 : base ≤ bu ∧ base ≤ bf ∧ base ≤ bg ∧ base ≤ bh
  o1 : ok bu ∧ ok bf ∧ ok bg ∧ ok bh
  d1 : bu ≠ bf ∧ bu ≠ bg ∧ bu ≠ bh ∧ bf ≠ bg ∧ bf ≠ bh ∧ bg ≠ bh
  wf : S.OK
def SpAt (w : World) (base : Nat) (ok : Nat → Prop) (p : Nat) (S : Sp) : Prop := ∃ Wv bu bf bg bh, SAt w base ok p S Wv bu bf bg bh
theorem own_move_ {w w' : World} {base : Nat} {e : TypeId} {size n : Nat} {v : Value} {xs : List Value} (h : w.ownsRow base e size v n xs) (hk : ∀ (g : Nat) (C : Array Value), v.ownBlock = some g → w.heap[g]? = some (.cells C e (0, 0)) → w'.heap[g]? = w.heap[g]?) : w'.ownsRow base e size v n xs := by
  obtain ⟨h1, h2⟩ := h
  refine ⟨h1, ?_⟩
  rcases h2 with h2 | ⟨g, cap, cur, hv, hg, hh, r⟩
  · exact Or.inl h2
  · exact Or.inr ⟨g, cap, cur, hv, hg, (hk g _ (by rw [hv]; rfl) hh).trans hh, r⟩
section
variable {w w' : World} {base p : Nat} {ok ok' : Nat → Prop} {S : Sp} {Wv : Value} {bu bf bg bh : Nat}
theorem WRow.move {v : Value} {rs : List (Nat × List Nat)} (h : WRow w base ok v rs) (hk : ∀ (g : Nat) (C : Array Value) (t : TypeId), ok g → w.heap[g]? = some (.cells C t (0, 0)) → (t = 101 ∨ t = 73) → w'.heap[g]? = w.heap[g]? ∧ ok' g) : WRow w' base ok' v rs := by
  obtain ⟨A, c, cs, e, ho, hb, hr⟩ := h
  have hbk : ∀ k, v.ownBlock = some k → ∃ C, w.heap[k]? = some (.cells C 101 (0, 0)) := fun k hk' => by
    rcases ho.2 with ⟨hv, _⟩ | ⟨g, cap, cur, hv, _, hh, _⟩
    · rw [hv] at hk'; simp [Value.ownBlock] at hk'
    · rw [hv] at hk'
      obtain rfl : g = k := by simpa [Value.ownBlock] using hk'
      exact ⟨_, hh⟩
  refine ⟨A, c, cs, e, own_move_ ho (fun g C hv hg => (hk g C _ (hb g hv) hg (.inl rfl)).1), fun k hv => ?_, fun i r hi => ?_⟩
  · obtain ⟨C, hC⟩ := hbk k hv
    exact (hk k C _ (hb k hv) hC (.inl rfl)).2
  · obtain ⟨A', n', c', h1, h2, h3, h4⟩ := hr i r hi
    refine ⟨A', n', c', h1, h2, own_move_ h3 (fun g C hv hg => (hk g C _ (h4 g hv) hg (.inr rfl)).1), fun k hv => ?_⟩
    rcases h3.2 with ⟨hv', _⟩ | ⟨g, cap, cur, hv', _, hh, _⟩
    · rw [hv'] at hv; simp [Value.ownBlock] at hv
    · rw [hv'] at hv
      obtain rfl : g = k := by simpa [Value.ownBlock] using hv
      exact (hk g _ _ (h4 g (by rw [hv']; rfl)) hh (.inr rfl)).2
theorem SAt.move (h : SAt w base ok p S Wv bu bf bg bh) (hk : ∀ k, k < w.heap.size → ok k → w'.heap[k]? = w.heap[k]? ∧ ok' k) : SAt w' base ok' p S Wv bu bf bg bh :=
  ⟨(hk p (blk_lt h.blk) h.okp).1.trans h.blk, h.bp, (hk p (blk_lt h.blk) h.okp).2, h.row.move (fun g C t ho hg _ => hk g (blk_lt hg) ho), h.su.block (hk _ h.su.lt h.o1.1).1, h.sf.block (hk _ h.sf.lt h.o1.2.1).1, h.sg.block (hk _ h.sg.lt h.o1.2.2.1).1, h.sh.block (hk _ h.sh.lt h.o1.2.2.2).1, h.b1,
    ⟨(hk _ h.su.lt h.o1.1).2, (hk _ h.sf.lt h.o1.2.1).2, (hk _ h.sg.lt h.o1.2.2.1).2, (hk _ h.sh.lt h.o1.2.2.2).2⟩, h.d1, h.wf⟩
theorem SpAt.move (h : SpAt w base ok p S) (hk : ∀ k, k < w.heap.size → ok k → w'.heap[k]? = w.heap[k]? ∧ ok' k) : SpAt w' base ok' p S := by
  obtain ⟨Wv, bu, bf, bg, bh, h⟩ := h
  exact ⟨Wv, bu, bf, bg, bh, h.move hk⟩
theorem SpAt.below (h : SpAt w base ok p S) (hb : Below w.heap.size w w') : SpAt w' base ok p S := h.move fun k hk ho => ⟨hb.block k hk, ho⟩
theorem SpAt.wf (h : SpAt w base ok p S) : S.OK := by
  obtain ⟨_, _, _, _, _, h⟩ := h
  exact h.wf
/-! what only reads -/
theorem send_any (h : SpAt w base ok p S) : Calls Try.prog 49 #[.pointer (some ⟨p, 0, none⟩)] w fun e w' => e = .returned (.int .u32 (S.fin : Int)) ∧ w = w' := by
  obtain ⟨Wv, bu, bf, bg, bh, h⟩ := h
  obtain ⟨c0, _⟩ := h.blk.cells
  go_enter Try.func49, Try.ntmps49
  go_wp2
  go_ret
  exact ⟨rfl, rfl⟩
theorem susable_any (h : SpAt w base ok p S) : Calls Try.prog 53 #[.pointer (some ⟨p, 0, none⟩)] w fun e w' => e = .returned (.int .i64 (S.us.length : Int)) ∧ w = w' := by
  obtain ⟨Wv, bu, bf, bg, bh, h⟩ := h
  obtain ⟨_, _, _, c3, _⟩ := h.blk.cells
  obtain ⟨nn, D0, hown, hsz⟩ := h.su.len_run
  go_enter Try.func53, Try.ntmps53
  go_wp2_with (first | (at_len; refine wpList_len_own _ rfl _ 141 rfl 73 108 Try.underlying141 _ bu nn D0 rfl hown ?_; rw [hsz]))
  go_ret
  exact ⟨rfl, rfl⟩
theorem sfresh_any (h : SpAt w base ok p S) (q : Nat) (hq : q < 4294967296) : Calls Try.prog 48 #[.pointer (some ⟨p, 0, none⟩), .int .u32 (q : Int)] w fun e w' => e = .returned (.bool (decide (q ∈ S.fr))) ∧ Below w.heap.size w w' := by
  obtain ⟨Wv, bu, bf, bg, bh, h⟩ := h
  obtain ⟨_, _, _, _, c4, _⟩ := h.blk.cells
  have hh := has_any w bf S.fr h.sf q hq
  go_enter Try.func48, Try.ntmps48
  go_wp2_with fail
  refine hh.mono ?_
  rintro e w1 ⟨rfl, hb1⟩
  go_wp2_with fail
  go_ret
  exact ⟨rfl, hb1⟩
end
end Go.Proofs.Ythijobbhpbklmaa

/- Layer 8: Take, Give. -/
namespace Go.Proofs.Ythijobbhpbklmaa
open Go.RowKit Go.Maps
set_option linter.unusedVariables false
set_option linter.unusedSimpArgs false

theorem MSet.del_ {w' : World} {b : Nat} {S : List Nat} (hnd : S.Nodup) {D : DataW Unit} (hT : Maps.Tidy D) (hM : Maps.IsMap D) (hsz : Maps.size D = S.length) (hhas : ∀ p : Nat, Maps.has D (.int .u32 (p : Int)) = decide (p ∈ S)) {q : Nat} (hq : q ∈ S) {n : Nat} (h : w'.ownsMap Try.prog 73 unitElem b n (D.del (.int .u32 (q : Int)))) : MSet w' b (S.erase q) := by
  refine ⟨hnd.erase q, n, _, h, ?_, fun p => ?_⟩
  · have h1 := Maps.size_del (k := .int .u32 (q : Int)) hT
    rw [hhas q, if_pos (decide_eq_true hq), hsz] at h1
    rw [List.length_erase_of_mem hq]
    omega
  · by_cases e : p = q
    · subst e
      rw [Maps.has_del_same]
      simp [hnd.mem_erase_iff]
    · rw [Maps.has_del_other (by intro h; injection h with _ h; exact e (by omega)), hhas p]
      simp [hnd.mem_erase_iff, e]
/-- Blocks that aren't ok stay. -/
def SFr (ok : Nat → Prop) (w w' : World) : Prop := w'.os = w.os ∧ w'.tape = w.tape ∧ w'.output = w.output ∧ w.heap.size ≤ w'.heap.size ∧ ∀ k, k < w.heap.size → ¬ ok k → w'.heap[k]? = w.heap[k]?
theorem SFr.refl (ok : Nat → Prop) (w : World) : SFr ok w w := ⟨rfl, rfl, rfl, Nat.le_refl _, fun _ _ _ => rfl⟩
theorem SFr.trans {ok : Nat → Prop} {a b c : World} (h : SFr ok a b) (k : SFr ok b c) : SFr ok a c :=
  ⟨k.1.trans h.1, k.2.1.trans h.2.1, k.2.2.1.trans h.2.2.1, Nat.le_trans h.2.2.2.1 k.2.2.2.1, fun i hi ho => (k.2.2.2.2 i (Nat.lt_of_lt_of_le hi h.2.2.2.1) ho).trans (h.2.2.2.2 i hi ho)⟩
theorem SFr.of_below {ok : Nat → Prop} {w w' : World} (h : Below w.heap.size w w') : SFr ok w w' := ⟨h.os, h.tape, h.output, h.size, fun i hi _ => h.block i hi⟩
theorem SFr.of_grown {ok : Nat → Prop} {w w' : World} {b : Nat} (h : w.grownBy w' (some b)) (hb : ok b) : SFr ok w w' := ⟨h.os, h.tape, h.output, h.size, fun i hi ho => h.block i hi (fun e => ho (by injection e with e; rw [e]; exact hb))⟩
theorem SFr.below {ok : Nat → Prop} {w w' : World} {B : Nat} (h : SFr ok w w') (hB : B ≤ w.heap.size) (ho : ∀ k, k < B → ¬ ok k) : Below B w w' :=
  ⟨h.1, h.2.1, h.2.2.1, h.2.2.2.1, fun k hk => h.2.2.2.2 k (by omega) (ho k hk)⟩
theorem grown_turned {w w' : World} {b : Nat} (h : w.mapTurned w' b) : w.grownBy w' (some b) := by
  exact h.grown
section
variable {w w' : World} {base p : Nat} {ok : Nat → Prop} {S : Sp} {Wv : Value} {bu bf bg bh : Nat}
/-- One of the maps has turned. -/
theorem WRow.grown {v : Value} {rs : List (Nat × List Nat)} (h : WRow w base ok v rs) {b : Nat} {T : List Nat} (hb : MSet w b T) (hg : w.grownBy w' (some b)) : WRow w' base ok v rs :=
  h.move fun g C t ho hC _ => ⟨hg.block g (blk_lt hC) (fun e => hb.ne hC (by injection e)), ho⟩
theorem SBlk.grown {e l : Nat} (h : SBlk w p e l Wv bu bf bg bh) {b : Nat} {T : List Nat} (hb : MSet w b T) (hg : w.grownBy w' (some b)) : SBlk w' p e l Wv bu bf bg bh :=
  (hg.block p (blk_lt h) (fun e => hb.ne h (by injection e))).trans h
theorem MSet.grown_ {b c : Nat} {T : List Nat} (h : MSet w b T) (hne : b ≠ c) (hg : w.grownBy w' (some c)) : MSet w' b T := h.block (hg.block b h.lt (fun e => hne (by injection e)))
end
def Sp.take (S : Sp) : Sp × Nat × Int :=
  if S.us = [] then (if S.lim ≤ S.fin then (S, 0, 21) else ({ S with fin := S.fin + 1, fr := S.fr ++ [S.fin] }, S.fin, 0)) else ({ S with us := S.us.erase (minS S.us), fr := S.fr ++ [minS S.us] }, minS S.us, 0)
theorem Sp.OK.take {S : Sp} (h : S.OK) : S.take.1.OK := by
  unfold Sp.take
  have h1 := h.e1
  have h2 := h.e2
  have h3 := h.e3
  split
  · rename_i he
    split
    · exact h
    · rename_i hl
      have hnf : ∀ T : List Nat, (∀ p ∈ T, 2 ≤ p ∧ p < S.fin) → S.fin ∉ T := fun T hT hm => absurd (hT _ hm).2 (by omega)
      have up : ∀ T : List Nat, (∀ p ∈ T, 2 ≤ p ∧ p < S.fin) → ∀ p ∈ T, 2 ≤ p ∧ p < S.fin + 1 := fun T hT p hp => by have := hT p hp; omega
      refine ⟨by show 2 ≤ S.fin + 1; omega, by show S.fin + 1 ≤ S.lim; omega, h3, up _ h.u1, ?_, up _ h.g1, up _ h.h1, ?_, h.ug, h.uh, ?_, ?_, h.gh, h.un, ?_, h.gd, h.hn⟩
      · intro p hp
        rcases List.mem_append.1 hp with hp | hp
        · exact up _ h.f1 p hp
        · rw [List.mem_singleton.1 hp]; show 2 ≤ S.fin ∧ S.fin < S.fin + 1; omega
      · intro p hp hq
        rcases List.mem_append.1 hq with hq | hq
        · exact h.uf p hp hq
        · rw [List.mem_singleton.1 hq] at hp; exact hnf _ h.u1 hp
      · intro p hp hq
        rcases List.mem_append.1 hp with hp | hp
        · exact h.fg p hp hq
        · rw [List.mem_singleton.1 hp] at hq; exact hnf _ h.g1 hq
      · intro p hp hq
        rcases List.mem_append.1 hp with hp | hp
        · exact h.fh p hp hq
        · rw [List.mem_singleton.1 hp] at hq; exact hnf _ h.h1 hq
      · exact List.nodup_append.2 ⟨h.fn, by simp, fun a ha c hc e => by rw [List.mem_singleton.1 hc] at e; exact hnf _ h.f1 (e ▸ ha)⟩
  · rename_i he
    obtain ⟨hm, _⟩ := minS_mem he
    have hm2 := h.u1 _ hm
    refine ⟨h1, h2, h3, fun p hp => h.u1 p (List.mem_of_mem_erase hp), ?_, h.g1, h.h1, ?_, fun p hp => h.ug p (List.mem_of_mem_erase hp), fun p hp => h.uh p (List.mem_of_mem_erase hp), ?_, ?_, h.gh, h.un.erase _, ?_, h.gd, h.hn⟩
    · intro p hp
      rcases List.mem_append.1 hp with hp | hp
      · exact h.f1 p hp
      · rw [List.mem_singleton.1 hp]; exact hm2
    · intro p hp hq
      obtain ⟨hne, hp'⟩ := (h.un.mem_erase_iff).1 hp
      rcases List.mem_append.1 hq with hq | hq
      · exact h.uf p hp' hq
      · exact hne (List.mem_singleton.1 hq)
    · intro p hp hq
      rcases List.mem_append.1 hp with hp | hp
      · exact h.fg p hp hq
      · rw [List.mem_singleton.1 hp] at hq; exact h.ug _ hm hq
    · intro p hp hq
      rcases List.mem_append.1 hp with hp | hp
      · exact h.fh p hp hq
      · rw [List.mem_singleton.1 hp] at hq; exact h.uh _ hm hq
    · exact List.nodup_append.2 ⟨h.fn, by simp, fun a ha c hc e => by rw [List.mem_singleton.1 hc] at e; exact h.uf _ hm (e ▸ ha)⟩

def STakeP (w : World) (base : Nat) (ok : Nat → Prop) (p : Nat) (S : Sp) (e : Ending) (w' : World) : Prop :=
  e = .returned (.tuple #[.int .u32 (S.take.2.1 : Int), .int .i64 S.take.2.2]) ∧ SpAt w' base ok p S.take.1 ∧ SFr ok w w'
set_option maxRecDepth 100000 in
set_option maxHeartbeats 1000000 in
theorem stake_any {w : World} {base : Nat} {ok : Nat → Prop} {p : Nat} {S : Sp} (h : SpAt w base ok p S) :
    Calls Try.prog 44 #[.pointer (some ⟨p, 0, none⟩)] w (STakeP w base ok p S) := by
  obtain ⟨Wv, bu, bf, bg, bh, h⟩ := h
  have hwf := h.wf
  have hwt := hwf.take
  have hwf0 := hwf
  have e2 := hwf.e2
  have e3 := hwf.e3
  have hul := nodup_len hwf.un (fun q hq => (hwf.u1 q hq).2)
  have hfl := nodup_len hwf.fn (fun q hq => (hwf.f1 q hq).2)
  obtain ⟨_, _, _, c3, _⟩ := h.blk.cells
  have hlow := lowest_any w bu S.us h.su (by omega) (fun q hq => by have := (hwf.u1 q hq).2; omega)
  have HH := Lib.hid h
  have HWF := Lib.hid hwf
  have HWT := Lib.hid hwt
  have HW0 := Lib.hid hwf0
  clear hwf hwt hwf0
  unfold STakeP
  by_cases he : S.us = []
  · rw [if_pos he] at hlow
    have HE := Lib.hid he
    clear h he
    by_cases hl : S.lim ≤ S.fin
    · have HT := Lib.hid (show S.take = (S, 0, 21) from by unfold Sp.take; rw [if_pos HE.out, if_pos hl])
      rw [HT.out]
      go_enter Try.func44, Try.ntmps44
      go_wp2_with (first | (go_at_call 68; refine hlow.mono ?_; rintro e w1 ⟨rfl, hb1⟩))
      have h1 := HH.out.move (w' := w1) (ok' := ok) (fun k hk ho => ⟨hb1.block k hk, ho⟩)
      obtain ⟨x0, x1, _⟩ := h1.blk.cells
      have H1 := Lib.hid h1
      clear h1
      have d1 : decide (S.lim ≤ S.fin) = true := decide_eq_true hl
      have d1' : decide ((S.lim : Int) ≤ (S.fin : Int)) = true := decide_eq_true (by omega)
      go_wp2_with fail
      go_quiet (fail)
      go_wp2_with fail
      go_ret2
      exact ⟨rfl, ⟨_, _, _, _, _, H1.out.move (fun k hk ho => ⟨rfl, ho⟩)⟩, SFr.of_below (below_drewN hb1 _)⟩
    · have HT := Lib.hid (show S.take = ({ S with fin := S.fin + 1, fr := S.fr ++ [S.fin] }, S.fin, 0) from by unfold Sp.take; rw [if_pos HE.out, if_neg hl])
      rw [HT.out] at HWT ⊢
      go_enter Try.func44, Try.ntmps44
      go_wp2_with (first | (go_at_call 68; refine hlow.mono ?_; rintro e w1 ⟨rfl, hb1⟩))
      have h1 := HH.out.move (w' := w1) (ok' := ok) (fun k hk ho => ⟨hb1.block k hk, ho⟩)
      obtain ⟨x0, x1, _⟩ := h1.blk.cells
      have H1 := Lib.hid h1
      clear h1
      have d1 : decide (S.lim ≤ S.fin) = false := decide_eq_false hl
      have d1' : decide ((S.lim : Int) ≤ (S.fin : Int)) = false := decide_eq_false (by omega)
      go_wp2_with fail
      go_quiet (fail)
      have h2 := H1.out.move (w' := w1.drewN nq) (ok' := ok) (fun k hk ho => ⟨rfl, ho⟩)
      have hb2 := below_drewN hb1 nq
      clear x0 x1 H1
      generalize w1.drewN nq = w2 at h2 hb2 ⊢
      obtain ⟨x0, x1, _, _, x4, _⟩ := h2.blk.cells
      have xf := h2.blk.free 0
      have hpf : p ≠ bf := h2.sf.ne h2.blk
      have hb3 := h2.blk.set0 (S.fin + 1)
      have h3 : ∀ k, k ≠ p → (w2.setCell ⟨p, 0, none⟩ (.int .u32 ((S.fin + 1 : Nat) : Int))).heap[k]? = w2.heap[k]? := fun k hk => Below.heap_setCell _ _ _ k hk
      have hv1 : ((S.fin + 1 : Nat) : Int) = (S.fin : Int) + 1 := by omega
      rw [hv1] at hb3
      simp only [hv1] at h3
      have hs3 : (w2.setCell ⟨p, 0, none⟩ (.int .u32 ((S.fin : Int) + 1))).heap.size = w2.heap.size := by simp
      have H2 := Lib.hid h2
      have H3 := Lib.hid h3
      have HB3 := Lib.hid (show SBlk (w2.setCell ⟨p, 0, none⟩ (.int .u32 ((S.fin : Int) + 1))) p (S.fin + 1) S.lim Wv bu bf bg bh from hb3)
      clear h2 h3 hb3 hv1
      go_wp2_with fail
      have hFr3 : SFr ok w (w2.setCell ⟨p, 0, none⟩ (.int .u32 ((S.fin : Int) + 1))) := ⟨hb2.os, hb2.tape, hb2.output, by rw [hs3]; exact hb2.size, fun k hk ho => (H3.out k (fun e => ho (by rw [e]; exact H2.out.okp))).trans (hb2.block k hk)⟩
      have hsf3 : MSet (w2.setCell ⟨p, 0, none⟩ (.int .u32 ((S.fin : Int) + 1))) bf S.fr := H2.out.sf.block (H3.out bf (fun e => H2.out.sf.ne H2.out.blk e.symm))
      have hsu3 : MSet (w2.setCell ⟨p, 0, none⟩ (.int .u32 ((S.fin : Int) + 1))) bu S.us := H2.out.su.block (H3.out bu (fun e => H2.out.su.ne H2.out.blk e.symm))
      have hsg3 : MSet (w2.setCell ⟨p, 0, none⟩ (.int .u32 ((S.fin : Int) + 1))) bg S.gn := H2.out.sg.block (H3.out bg (fun e => H2.out.sg.ne H2.out.blk e.symm))
      have hsh3 : MSet (w2.setCell ⟨p, 0, none⟩ (.int .u32 ((S.fin : Int) + 1))) bh S.hd := H2.out.sh.block (H3.out bh (fun e => H2.out.sh.ne H2.out.blk e.symm))
      have hrow3 : WRow (w2.setCell ⟨p, 0, none⟩ (.int .u32 ((S.fin : Int) + 1))) base ok Wv S.wait := H2.out.row.move (fun g C t ho hC ht => ⟨H3.out g (fun e => by
        subst e
        have hblk := H2.out.blk
        unfold SBlk at hblk
        rw [hC] at hblk
        injection hblk with hblk
        injection hblk with _ hblk
        rcases ht with rfl | rfl
        · exact absurd hblk (by decide)
        · exact absurd hblk (by decide)), ho⟩)
      have hB3 := HB3.out
      generalize w2.setCell ⟨p, 0, none⟩ (.int .u32 ((S.fin : Int) + 1)) = w3 at hFr3 hsf3 hsu3 hsg3 hsh3 hrow3 hB3 ⊢
      refine (add_any w3 bf S.fr hsf3 (by omega) S.fin (by omega) (fun hm => absurd (HWF.out.f1 _ hm).2 (by omega))).mono ?_
      rintro e w4 ⟨rfl, hsf4, hg4⟩
      obtain ⟨n1, n2, n3, n4, n5, n6⟩ := H2.out.d1
      have hfin : SAt w4 base ok p { S with fin := S.fin + 1, fr := S.fr ++ [S.fin] } Wv bu bf bg bh :=
        ⟨hB3.grown hsf3 hg4, H2.out.bp, H2.out.okp, hrow3.grown hsf3 hg4, hsu3.grown_ n1 hg4, hsf4, hsg3.grown_ (Ne.symm n4) hg4, hsh3.grown_ (Ne.symm n5) hg4, H2.out.b1, H2.out.o1, H2.out.d1, HWT.out⟩
      have hFr4 := hFr3.trans (SFr.of_grown hg4 H2.out.o1.2.1)
      clear hsf3 hsu3 hsg3 hsh3 hrow3 hB3 hg4 hsf4
      go_wp2_with fail
      go_ret2
      exact ⟨rfl, ⟨_, _, _, _, _, hfin⟩, hFr4⟩
  · rw [if_neg he] at hlow
    obtain ⟨hmm, _⟩ := minS_mem he
    obtain ⟨q, hq⟩ : ∃ q, minS S.us = q := ⟨_, rfl⟩
    have HT := Lib.hid (show S.take = ({ S with us := S.us.erase q, fr := S.fr ++ [q] }, q, 0) from by unfold Sp.take; rw [if_neg he, hq])
    rw [hq] at hlow hmm
    have hqf := HW0.out.u1 q hmm
    have hqk := key_page q (by omega)
    rw [HT.out] at HWT ⊢
    clear h he hq
    go_enter Try.func44, Try.ntmps44
    go_wp2_with (first
      | (go_at_call 68; refine hlow.mono ?_; rintro e w1 ⟨rfl, hb1⟩; have h1 := HH.out.move (w' := w1) (ok' := ok) (fun k hk ho => ⟨hb1.block k hk, ho⟩); obtain ⟨x0, x1, _, x3, x4, _⟩ := h1.blk.cells; obtain ⟨hund, nn, D0, hown0, hsz, hhas⟩ := h1.su; have hown := own_tight hown0; have htidy := hown.tidy law_page; have hisM := hown.isMap; have HHAS := Lib.hid hhas; have HSZ := Lib.hid hsz; have HTI := Lib.hid htidy; have HIM := Lib.hid hisM; have H1 := Lib.hid h1; clear hhas hsz htidy hisM h1 hown0)
      | (at_delete; refine wpList_delete_own _ rfl _ _ 141 73 rfl 108 law_page Try.underlying141 unitElem bu _ D0 rfl hown _ _ rfl hqk ?_; intro w2 hown2 hturn2; have hg2 := grown_turned hturn2; have H1b := H1.out.blk.grown H1.out.su hg2; obtain ⟨y0, y1, _, y3, y4, _⟩ := H1b.cells; have HB2 := Lib.hid H1b; have HG2 := Lib.hid hg2; have HO2 := Lib.hid hown2; clear H1b hown2))
    obtain ⟨n1, n2, n3, n4, n5, n6⟩ := H1.out.d1
    have hsu2 : MSet w2 bu (S.us.erase q) := MSet.del_ hund HTI.out HIM.out HSZ.out HHAS.out hmm HO2.out
    have hsf2 := H1.out.sf.grown_ (Ne.symm n1) HG2.out
    have hsg2 := H1.out.sg.grown_ (Ne.symm n2) HG2.out
    have hsh2 := H1.out.sh.grown_ (Ne.symm n3) HG2.out
    have hrow2 := H1.out.row.grown H1.out.su HG2.out
    have hFr2 : SFr ok w w2 := (SFr.of_below hb1).trans (SFr.of_grown HG2.out H1.out.o1.1)
    refine (add_any w2 bf S.fr hsf2 (by omega) q (by omega) (fun hm => HW0.out.uf q hmm hm)).mono ?_
    rintro e w4 ⟨rfl, hsf4, hg4⟩
    have hfin : SAt w4 base ok p { S with us := S.us.erase q, fr := S.fr ++ [q] } Wv bu bf bg bh :=
      ⟨HB2.out.grown hsf2 hg4, H1.out.bp, H1.out.okp, hrow2.grown hsf2 hg4, hsu2.grown_ n1 hg4, hsf4, hsg2.grown_ (Ne.symm n4) hg4, hsh2.grown_ (Ne.symm n5) hg4, H1.out.b1, H1.out.o1, H1.out.d1, HWT.out⟩
    have hFr4 := hFr2.trans (SFr.of_grown hg4 H1.out.o1.2.1)
    clear hsf2 hsu2 hsg2 hsh2 hrow2 hg4 hsf4
    go_wp2_with fail
    go_ret2
    exact ⟨rfl, ⟨_, _, _, _, _, hfin⟩, hFr4⟩
end Go.Proofs.Ythijobbhpbklmaa

/- Layer 8: Give. -/
namespace Go.Proofs.Ythijobbhpbklmaa
open Go.RowKit Go.Maps
set_option linter.unusedVariables false
set_option linter.unusedSimpArgs false

def Sp.give (S : Sp) (q : Nat) : Sp × Int :=
  if q < 2 ∨ S.fin ≤ q ∨ q ∈ S.us ∨ q ∈ S.hd ∨ q ∈ S.gn then (S, 1) else if q ∈ S.fr then ({ S with us := S.us ++ [q], fr := S.fr.erase q }, 0) else ({ S with gn := S.gn ++ [q] }, 0)
theorem Sp.OK.give {S : Sp} (h : S.OK) (q : Nat) : (S.give q).1.OK := by
  unfold Sp.give
  split
  · exact h
  rename_i hn
  have a1 : 2 ≤ q := by rcases Nat.lt_or_ge q 2 with c | c; exact absurd (.inl c) hn; exact c
  have a2 : q < S.fin := by rcases Nat.lt_or_ge q S.fin with c | c; exact c; exact absurd (.inr (.inl c)) hn
  have a3 : q ∉ S.us := fun c => hn (.inr (.inr (.inl c)))
  have a4 : q ∉ S.hd := fun c => hn (.inr (.inr (.inr (.inl c))))
  have a5 : q ∉ S.gn := fun c => hn (.inr (.inr (.inr (.inr c))))
  split
  · rename_i hf
    have er : ∀ x, x ∈ S.fr.erase q ↔ x ≠ q ∧ x ∈ S.fr := fun x => h.fn.mem_erase_iff
    refine ⟨h.e1, h.e2, h.e3, ?_, fun x hx => h.f1 x ((er x).1 hx).2, h.g1, h.h1, ?_, ?_, ?_, fun x hx => h.fg x ((er x).1 hx).2, fun x hx => h.fh x ((er x).1 hx).2, h.gh, ?_, h.fn.erase q, h.gd, h.hn⟩
    · intro x hx
      rcases List.mem_append.1 hx with hx | hx
      · exact h.u1 x hx
      · rw [List.mem_singleton.1 hx]; exact ⟨a1, a2⟩
    · intro x hx hy
      obtain ⟨y1, y2⟩ := (er x).1 hy
      rcases List.mem_append.1 hx with hx | hx
      · exact h.uf x hx y2
      · exact y1 (List.mem_singleton.1 hx)
    · intro x hx hy
      rcases List.mem_append.1 hx with hx | hx
      · exact h.ug x hx hy
      · rw [List.mem_singleton.1 hx] at hy; exact a5 hy
    · intro x hx hy
      rcases List.mem_append.1 hx with hx | hx
      · exact h.uh x hx hy
      · rw [List.mem_singleton.1 hx] at hy; exact a4 hy
    · exact List.nodup_append.2 ⟨h.un, by simp, fun a ha c hc e => by rw [List.mem_singleton.1 hc] at e; exact a3 (e ▸ ha)⟩
  · rename_i hf
    refine ⟨h.e1, h.e2, h.e3, h.u1, h.f1, ?_, h.h1, h.uf, ?_, h.uh, ?_, h.fh, ?_, h.un, h.fn, ?_, h.hn⟩
    · intro x hx
      rcases List.mem_append.1 hx with hx | hx
      · exact h.g1 x hx
      · rw [List.mem_singleton.1 hx]; exact ⟨a1, a2⟩
    · intro x hx hy
      rcases List.mem_append.1 hy with hy | hy
      · exact h.ug x hx hy
      · rw [List.mem_singleton.1 hy] at hx; exact a3 hx
    · intro x hx hy
      rcases List.mem_append.1 hy with hy | hy
      · exact h.fg x hx hy
      · rw [List.mem_singleton.1 hy] at hx; exact hf hx
    · intro x hx hy
      rcases List.mem_append.1 hx with hx | hx
      · exact h.gh x hx hy
      · rw [List.mem_singleton.1 hx] at hy; exact a4 hy
    · exact List.nodup_append.2 ⟨h.gd, by simp, fun a ha c hc e => by rw [List.mem_singleton.1 hc] at e; exact a5 (e ▸ ha)⟩
def SGiveP (w : World) (base : Nat) (ok : Nat → Prop) (p : Nat) (S : Sp) (q : Nat) (e : Ending) (w' : World) : Prop :=
  e = .returned (.int .i64 (S.give q).2) ∧ SpAt w' base ok p (S.give q).1 ∧ SFr ok w w'
theorem give_no {S : Sp} {q : Nat} (h : q < 2 ∨ S.fin ≤ q ∨ q ∈ S.us ∨ q ∈ S.hd ∨ q ∈ S.gn) : S.give q = (S, 1) := by unfold Sp.give; rw [if_pos h]
set_option maxRecDepth 100000 in
set_option maxHeartbeats 1000000 in
theorem sgive_any {w : World} {base : Nat} {ok : Nat → Prop} {p : Nat} {S : Sp} (h : SpAt w base ok p S) (q : Nat) (hq : q < 4294967296) :
    Calls Try.prog 46 #[.pointer (some ⟨p, 0, none⟩), .int .u32 (q : Int)] w (SGiveP w base ok p S q) := by
  obtain ⟨Wv, bu, bf, bg, bh, h⟩ := h
  have e2 := h.wf.e2
  have e3 := h.wf.e3
  have hul := nodup_len h.wf.un (fun q hq => (h.wf.u1 q hq).2)
  have hfl := nodup_len h.wf.fn (fun q hq => (h.wf.f1 q hq).2)
  have hgl := nodup_len h.wf.gd (fun q hq => (h.wf.g1 q hq).2)
  have HWT := Lib.hid (h.wf.give q)
  have HW := Lib.hid h.wf
  obtain ⟨x0, _, _, x3, x4, x5, x6⟩ := h.blk.cells
  have HH := Lib.hid h
  clear h
  unfold SGiveP
  by_cases c1 : q < 2
  · rw [give_no (.inl c1)]
    have d1 : decide (q < 2) = true := decide_eq_true c1
    have d1' : decide ((q : Int) < 2) = true := decide_eq_true (by omega)
    go_enter Try.func46, Try.ntmps46
    go_wp2_with fail
    go_ret
    exact ⟨rfl, ⟨_, _, _, _, _, HH.out⟩, SFr.refl _ _⟩
  have d1 : decide (q < 2) = false := decide_eq_false c1
  have d1' : decide ((q : Int) < 2) = false := decide_eq_false (by omega)
  by_cases c2 : S.fin ≤ q
  · rw [give_no (.inr (.inl c2))]
    have d2 : decide (S.fin ≤ q) = true := decide_eq_true c2
    have d2' : decide ((S.fin : Int) ≤ (q : Int)) = true := decide_eq_true (by omega)
    go_enter Try.func46, Try.ntmps46
    go_wp2_with fail
    go_ret
    exact ⟨rfl, ⟨_, _, _, _, _, HH.out⟩, SFr.refl _ _⟩
  have d2 : decide (S.fin ≤ q) = false := decide_eq_false c2
  have d2' : decide ((S.fin : Int) ≤ (q : Int)) = false := decide_eq_false (by omega)
  go_enter Try.func46, Try.ntmps46
  go_wp2_with fail
  refine (has_any w bu S.us HH.out.su q hq).mono ?_
  rintro e w1 ⟨rfl, hb1⟩
  by_cases c3 : q ∈ S.us
  · have HGN := Lib.hid (give_no (.inr (.inr (.inl c3))))
    rw [decide_eq_true c3]
    go_wp2_with fail
    go_ret
    rw [HGN.out]
    exact ⟨rfl, ⟨_, _, _, _, _, HH.out.move (fun k hk ho => ⟨hb1.block k hk, ho⟩)⟩, SFr.of_below hb1⟩
  rw [decide_eq_false c3]
  have H1 := Lib.hid (HH.out.move (w' := w1) (ok' := ok) (fun k hk ho => ⟨hb1.block k hk, ho⟩))
  obtain ⟨x0, _, _, x3, x4, x5, x6⟩ := H1.out.blk.cells
  go_wp2_with fail
  refine (has_any w1 bh S.hd H1.out.sh q hq).mono ?_
  rintro e w2 ⟨rfl, hb2⟩
  have hb2' := hb1.trans (hb2.mono hb1.size)
  by_cases c4 : q ∈ S.hd
  · have HGN := Lib.hid (give_no (.inr (.inr (.inr (.inl c4)))))
    rw [decide_eq_true c4]
    go_wp2_with fail
    go_ret
    rw [HGN.out]
    exact ⟨rfl, ⟨_, _, _, _, _, H1.out.move (fun k hk ho => ⟨hb2.block k hk, ho⟩)⟩, SFr.of_below hb2'⟩
  rw [decide_eq_false c4]
  have H2 := Lib.hid (H1.out.move (w' := w2) (ok' := ok) (fun k hk ho => ⟨hb2.block k hk, ho⟩))
  clear x0 x3 x4 x5 x6
  obtain ⟨x0, _, _, x3, x4, x5, x6⟩ := H2.out.blk.cells
  go_wp2_with fail
  refine (has_any w2 bg S.gn H2.out.sg q hq).mono ?_
  rintro e w3 ⟨rfl, hb3⟩
  have hb3' := hb2'.trans (hb3.mono hb2'.size)
  by_cases c5 : q ∈ S.gn
  · have HGN := Lib.hid (give_no (.inr (.inr (.inr (.inr c5)))))
    rw [decide_eq_true c5]
    go_wp2_with fail
    go_ret
    rw [HGN.out]
    exact ⟨rfl, ⟨_, _, _, _, _, H2.out.move (fun k hk ho => ⟨hb3.block k hk, ho⟩)⟩, SFr.of_below hb3'⟩
  rw [decide_eq_false c5]
  have H3 := Lib.hid (H2.out.move (w' := w3) (ok' := ok) (fun k hk ho => ⟨hb3.block k hk, ho⟩))
  clear x0 x3 x4 x5 x6
  obtain ⟨x0, _, _, x3, x4, x5, x6⟩ := H3.out.blk.cells
  have hno : ¬ (q < 2 ∨ S.fin ≤ q ∨ q ∈ S.us ∨ q ∈ S.hd ∨ q ∈ S.gn) := by rintro (h | h | h | h | h); exact c1 h; exact c2 h; exact c3 h; exact c4 h; exact c5 h
  have HNO := Lib.hid hno
  clear hno
  go_wp2_with fail
  refine (has_any w3 bf S.fr H3.out.sf q hq).mono ?_
  rintro e w4 ⟨rfl, hb4⟩
  have hb4' := hb3'.trans (hb4.mono hb3'.size)
  have H4 := Lib.hid (H3.out.move (w' := w4) (ok' := ok) (fun k hk ho => ⟨hb4.block k hk, ho⟩))
  clear x0 x3 x4 x5 x6
  obtain ⟨x0, _, _, x3, x4, x5, x6⟩ := H4.out.blk.cells
  obtain ⟨n1, n2, n3, n4, n5, n6⟩ := H4.out.d1
  by_cases c6 : q ∈ S.fr
  · rw [decide_eq_true c6]
    have HG := Lib.hid (show S.give q = ({ S with us := S.us ++ [q], fr := S.fr.erase q }, 0) from by unfold Sp.give; rw [if_neg HNO.out, if_pos c6])
    rw [HG.out] at HWT
    have hqk := key_page q hq
    obtain ⟨hfnd, nn, D0, hown0, hsz, hhas⟩ := H4.out.sf
    have hown := own_tight hown0
    have HTI := Lib.hid (hown.tidy law_page)
    have HIM := Lib.hid hown.isMap
    have HHAS := Lib.hid hhas
    have HSZ := Lib.hid hsz
    clear hown0 hsz hhas
    go_wp2_with (first
      | (at_delete; refine wpList_delete_own _ rfl _ _ 141 73 rfl 108 law_page Try.underlying141 unitElem bf _ D0 rfl hown _ _ rfl hqk ?_; intro w5 hown5 hturn5; have hg5 := grown_turned hturn5; have H5b := H4.out.blk.grown H4.out.sf hg5; obtain ⟨y0, _, _, y3, y4, y5, y6⟩ := H5b.cells; have HB5 := Lib.hid H5b; have HG5 := Lib.hid hg5; have HO5 := Lib.hid hown5; clear H5b hown5))
    have hsf5 : MSet w5 bf (S.fr.erase q) := MSet.del_ hfnd HTI.out HIM.out HSZ.out HHAS.out c6 HO5.out
    have hsu5 := H4.out.su.grown_ n1 HG5.out
    have hsg5 := H4.out.sg.grown_ (Ne.symm n4) HG5.out
    have hsh5 := H4.out.sh.grown_ (Ne.symm n5) HG5.out
    have hrow5 := H4.out.row.grown H4.out.sf HG5.out
    have hFr5 : SFr ok w w5 := (SFr.of_below hb4').trans (SFr.of_grown HG5.out H4.out.o1.2.1)
    refine (add_any w5 bu S.us hsu5 (by omega) q hq c3).mono ?_
    rintro e w6 ⟨rfl, hsu6, hg6⟩
    have hfin : SAt w6 base ok p { S with us := S.us ++ [q], fr := S.fr.erase q } Wv bu bf bg bh :=
      ⟨HB5.out.grown hsu5 hg6, H4.out.bp, H4.out.okp, hrow5.grown hsu5 hg6, hsu6, hsf5.grown_ (Ne.symm n1) hg6, hsg5.grown_ (Ne.symm n2) hg6, hsh5.grown_ (Ne.symm n3) hg6, H4.out.b1, H4.out.o1, H4.out.d1, HWT.out⟩
    have hFr6 := hFr5.trans (SFr.of_grown hg6 H4.out.o1.1)
    clear hsf5 hsu5 hsg5 hsh5 hrow5 hg6 hsu6
    go_wp2_with fail
    go_ret
    rw [HG.out]
    exact ⟨rfl, ⟨_, _, _, _, _, hfin⟩, hFr6⟩
  · rw [decide_eq_false c6]
    have HG := Lib.hid (show S.give q = ({ S with gn := S.gn ++ [q] }, 0) from by unfold Sp.give; rw [if_neg HNO.out, if_neg c6])
    rw [HG.out] at HWT
    go_wp2_with fail
    refine (add_any w4 bg S.gn H4.out.sg (by omega) q hq c5).mono ?_
    rintro e w6 ⟨rfl, hsg6, hg6⟩
    have hfin : SAt w6 base ok p { S with gn := S.gn ++ [q] } Wv bu bf bg bh :=
      ⟨H4.out.blk.grown H4.out.sg hg6, H4.out.bp, H4.out.okp, H4.out.row.grown H4.out.sg hg6, H4.out.su.grown_ n2 hg6, H4.out.sf.grown_ n4 hg6, hsg6, H4.out.sh.grown_ (Ne.symm n6) hg6, H4.out.b1, H4.out.o1, H4.out.d1, HWT.out⟩
    have hFr6 := (SFr.of_below hb4').trans (SFr.of_grown hg6 H4.out.o1.2.2.1)
    clear hg6 hsg6
    go_wp2_with fail
    go_ret
    rw [HG.out]
    exact ⟨rfl, ⟨_, _, _, _, _, hfin⟩, hFr6⟩
end Go.Proofs.Ythijobbhpbklmaa

/- Records in memory (layer 8). -/
namespace Go.Proofs.Ythijobbhpbklmaa
open Go.RowKit
set_option linter.unusedVariables false
set_option linter.unusedSimpArgs false

/-- A record: the change, its pages. -/
abbrev FRc := Nat × List Nat
def Pgs (pl : List Nat) : List Value := pl.map fun (x : Nat) => Value.int .u32 (x : Int)
theorem Pgs_length (pl : List Nat) : (Pgs pl).length = pl.length := by simp [Pgs]
theorem Pgs_snoc (pl : List Nat) (x : Nat) : Pgs (pl ++ [x]) = Pgs pl ++ [.int .u32 (x : Int)] := by simp [Pgs]
theorem Pgs_one (pl : List Nat) : ∀ u ∈ Pgs pl, u.oneCell' = true := by
  intro u hu
  simp only [Pgs, List.mem_map] at hu
  obtain ⟨x, _, rfl⟩ := hu
  rfl
def RcAt (w : World) (B : Nat) (ad : Addr) (r : FRc) (Ap : Option Addr) (np cp : Nat) : Prop :=
  ad.block < B ∧ w.cell? ad = some (.int .u64 (r.1 : Int)) ∧ w.cell? (ad.add 1) = some (.slice Ap np cp) ∧ Reads w B 1 Ap np (Pgs r.2)
theorem RcAt.below {w w' : World} {B : Nat} {ad : Addr} {r : FRc} {Ap : Option Addr} {np cp : Nat} (h : RcAt w B ad r Ap np cp) (hb : Below B w w') : RcAt w' B ad r Ap np cp :=
  ⟨h.1, (hb.cell h.1).trans h.2.1, (hb.cell (p := ad.add 1) (by rw [block_of_add]; exact h.1)).trans h.2.2.1, h.2.2.2.below hb⟩
theorem RcAt.more {w : World} {B B' : Nat} {ad : Addr} {r : FRc} {Ap : Option Addr} {np cp : Nat} (h : RcAt w B ad r Ap np cp) (hB : B ≤ B') : RcAt w B' ad r Ap np cp := ⟨by have := h.1; omega, h.2.1, h.2.2.1, h.2.2.2.more hB⟩
/-- Records, as they lie in rows below block B: two cells each. -/
def Recs (w : World) (B : Nat) (A : Option Addr) (n : Nat) (rs : List FRc) : Prop :=
  rs.length = n ∧ ∀ (i : Nat) (r : FRc), rs[i]? = some r → ∃ ad Ap np cp, A = some ad ∧ RcAt w B (ad.add (i * 2)) r Ap np cp
theorem Recs.below {w w' : World} {B : Nat} {A : Option Addr} {n : Nat} {rs : List FRc} (h : Recs w B A n rs) (hb : Below B w w') : Recs w' B A n rs :=
  ⟨h.1, fun i r hi => by obtain ⟨ad, Ap, np, cp, h1, h2⟩ := h.2 i r hi; exact ⟨ad, Ap, np, cp, h1, h2.below hb⟩⟩
theorem Recs.more {w : World} {B B' : Nat} {A : Option Addr} {n : Nat} {rs : List FRc} (h : Recs w B A n rs) (hB : B ≤ B') : Recs w B' A n rs :=
  ⟨h.1, fun i r hi => by obtain ⟨ad, Ap, np, cp, h1, h2⟩ := h.2 i r hi; exact ⟨ad, Ap, np, cp, h1, h2.more hB⟩⟩
theorem Recs.at_ {w : World} {B : Nat} {A : Option Addr} {n : Nat} {rs : List FRc} (h : Recs w B A n rs) {i : Nat} (hi : i < n) : ∃ r ad Ap np cp, rs[i]? = some r ∧ A = some ad ∧ RcAt w B (ad.add (i * 2)) r Ap np cp := by
  obtain ⟨r, hr⟩ : ∃ r, rs[i]? = some r := ⟨_, List.getElem?_eq_getElem (show i < rs.length by rw [h.1]; exact hi)⟩
  obtain ⟨ad, Ap, np, cp, h1, h2⟩ := h.2 i r hr
  exact ⟨r, ad, Ap, np, cp, hr, h1, h2⟩
def FROk (rs : List FRc) : Prop := ∀ r ∈ rs, r.1 < 18446744073709551616 ∧ ∀ x ∈ r.2, x < 4294967296

theorem info_pg : (Try.prog.info? 73).map (fun i => (i.zero, i.size, i.bytes)) = some (some (.int .u32 0), 1, 4) := by kernel_rfl
/-- slices.Clone of pages -/
theorem pclone_any (w : World) (B : Nat) (A : Option Addr) (n c : Nat) (l : List Nat) (h : Reads w B 1 A n (Pgs l)) (hc0 : A = none → c = 0) (hnc : n ≤ c) (hn : n ≤ 35184372088831) :
    Calls Try.prog 65 #[.slice A n c] w fun e w' => ∃ v, e = .returned v ∧ w'.ownsRow w.heap.size 73 1 v n (Pgs l) ∧ Below w.heap.size w w' := by
  obtain ⟨i0, hi0, hz0, hz1, hz2⟩ := info_parts info_pg
  have q := fun (w : World) (a : Option Addr) (n c n' c' : Nat) => Lib.run_eql_slice_nil (P := Try.prog) w _ _ a n c n' c' Try.underlying99
  rcases A with _ | ad
  · have hc := hc0 rfl
    have hn0 : n = 0 := by omega
    subst hc hn0
    have hl : l = [] := List.eq_nil_of_length_eq_zero (by have := h.1; rw [Pgs_length] at this; omega)
    subst hl
    clear h hn
    go_enter Try.func65, Try.ntmps65
    go_wp2
    go_ret
    exact ⟨_, rfl, World.ownsRow_nil _ _ _ _, Below.refl _ _⟩
  · go_enter Try.func65, Try.ntmps65
    go_wp2_with (first | (at_builtin; refine wpList_append_any _ rfl (.tmp 5) (.tmp 6) _ rfl w.heap.size 73 i0 _ 1 4 Try.underlying99 hi0 hz0 hz1 hz2 rfl (by omega) _ 0 [] rfl (World.ownsRow_made w #[] 0 (Nat.le_refl _) (by simp [maxLen]) rfl) B (some ad) n c _ rfl (h.alloc' _) (Pgs_one l) (by simp only [maxLen]; omega) (by omega) (by simp) ?_))
    intro v w1 hown hg hat
    go_wp2
    go_ret
    exact ⟨v, rfl, by simpa using hown, ((Below.refl _ _).alloc (Nat.le_refl _) _).grown hg (by simp) (fun k hk => by simp [Value.ownBlock] at hk; omega)⟩
end Go.Proofs.Ythijobbhpbklmaa

/- space.Right. -/
namespace Go.Proofs.Ythijobbhpbklmaa
open Go.RowKit
set_option linter.unusedVariables false
set_option linter.unusedSimpArgs false

/-- All pages of records. -/
def rpAll (rs : List FRc) : List Nat := rs.flatMap (·.2)
theorem rpAll_snoc (rs : List FRc) (r : FRc) : rpAll (rs ++ [r]) = rpAll rs ++ r.2 := by simp [rpAll]
def RPage (rs : List FRc) (e k : Nat) (pl : List Nat) (j p : Nat) : Prop := 2 ≤ p ∧ p < e ∧ (∀ q, 0 < j → pl[j - 1]? = some q → q < p) ∧ p ∉ rpAll (rs.take k) ++ pl.take j
def RRec (rs : List FRc) (e k : Nat) (r : FRc) : Prop := r.2 ≠ [] ∧ (∀ q, 0 < k → rs[k - 1]? = some q → q.1 < r.1) ∧ ∀ j p, r.2[j]? = some p → RPage rs e k r.2 j p
/-- Records that may be. -/
def SpRight (rs : List FRc) (e : Nat) : Prop := ∀ k r, rs[k]? = some r → RRec rs e k r
theorem rpAll_take_le (rs : List FRc) {k : Nat} {r : FRc} (h : rs[k]? = some r) (j : Nat) : (rpAll (rs.take k) ++ r.2.take j).length ≤ (rpAll rs).length := by
  have h1 : rs = rs.take k ++ r :: rs.drop (k + 1) := by
    obtain ⟨hi, rfl⟩ := List.getElem?_eq_some_iff.1 h
    rw [← List.drop_eq_getElem_cons hi, List.take_append_drop]
  have h2 : (rpAll rs).length = (rpAll (rs.take k)).length + r.2.length + (rpAll (rs.drop (k + 1))).length := by
    conv => lhs; rw [h1]
    simp [rpAll]
    omega
  rw [List.length_append, List.length_take]
  omega
theorem rtake_succ {α : Type} {es : List α} {k : Nat} {e : α} (h : es[k]? = some e) : es.take (k + 1) = es.take k ++ [e] := by rw [List.take_add_one, h]; rfl

def SpRightP (rs : List FRc) (e : Nat) (w : World) (x : Ending) (w' : World) : Prop := ∃ b, x = .returned (.bool b) ∧ (b = true ↔ SpRight rs e) ∧ Below w.heap.size w w'
theorem SpRightP.no {rs : List FRc} {e : Nat} {w w' : World} (h : ¬ SpRight rs e) (hb : Below w.heap.size w w') : SpRightP rs e w (.returned (.bool false)) w' := ⟨false, rfl, by simp [h], hb⟩

set_option maxRecDepth 100000 in
set_option maxHeartbeats 4000000 in
theorem spright_any (w : World) (B : Nat) (A : Option Addr) (n c : Nat) (rs : List FRc) (h : Recs w B A n rs) (hBw : B ≤ w.heap.size) (hok : FROk rs) (hn : n ≤ 1000000000) (hpl : ∀ r ∈ rs, r.2.length ≤ 1000000000) (htot : (rpAll rs).length ≤ 1000000000) (e : Nat) :
    Calls Try.prog 42 #[.slice A n c, .int .u32 (e : Int)] w (SpRightP rs e w) := by
  have hmm := @run_makeMap Try.prog
  have hlen := h.1
  go_enter Try.func42, Try.ntmps42
  go_wp2_with fail
  have hm0 := MSet.made w
  have hb0 : Below w.heap.size w (w.alloc (.map #[] 0)) := (Below.refl _ _).alloc (Nat.le_refl _) _
  obtain ⟨mb, hmb⟩ : ∃ mb, w.heap.size = mb := ⟨_, rfl⟩
  have HMB := Lib.hid hmb
  have hmbl : w.heap.size ≤ mb := by omega
  rw [hmb] at hm0 ⊢
  clear hmb hmm
  go_loopw [13] (fun i wr => ∃ k : Nat, k ≤ n ∧ i = .int .i64 (k : Int) ∧ MSet wr mb (rpAll (rs.take k)) ∧ Hid (∀ k' r, k' < k → rs[k']? = some r → RRec rs e k' r) ∧ Below w.heap.size w wr) (fun i _ => n - (intOf i).toNat)
  case atStart => exact ⟨0, Nat.zero_le _, rfl, by simpa [rpAll] using hm0, Lib.hid (fun _ _ h => absurd h (by omega)), hb0⟩
  case round =>
    obtain ⟨k, hk, rfl, hms, hpre, hbw⟩ := hrel
    clear hm0 hb0
    by_cases hlt : k < n
    · obtain ⟨r, ad, Ap, np, cp, hr, rfl, hRC0⟩ := h.at_ hlt
      have hRC := hRC0.below (hbw.mono hBw)
      obtain ⟨hadB, ca, cb, _⟩ := hRC
      have cb : wr.cell? ⟨(ad.add (k * 2)).block, (ad.add (k * 2)).off + 1, none⟩ = some (.slice Ap np cp) := cb
      obtain ⟨hr1, hr2⟩ := hok r (List.mem_of_getElem? hr)
      have hnp := hpl r (List.mem_of_getElem? hr)
      have hpl1 : r.2.length = np := by have := hRC0.2.2.2.1; rw [Pgs_length] at this; omega
      have hbs := hbw.size
      have HR := Lib.hid hr
      have HPL := Lib.hid hpl1
      have HPG := Lib.hid (fun (W : World) (hW : Below w.heap.size w W) (j : Nat) (hj : j < np) => (by
        obtain ⟨adp, u, e1, e2, e3, e4⟩ := (hRC0.2.2.2.below (hW.mono hBw)).at_ hj
        simp only [Pgs, List.getElem?_map, Option.map_eq_some_iff] at e3
        obtain ⟨p, hp, rfl⟩ := e3
        exact ⟨p, adp, hp, e1, e4, e2⟩ : ∃ (p : Nat) (adp : Addr), r.2[j]? = some p ∧ Ap = some adp ∧ W.cell? (adp.add j) = some (.int .u32 (p : Int)) ∧ adp.block < B))
      rw [hpl1] at hnp
      clear hr hpl1 hRC0
      -- the record's own box
      have hb1 : Below w.heap.size w (wr.alloc (.cells #[.int .u64 (r.1 : Int), .slice Ap np cp] 101)) := hbw.alloc hbs _
      have hms1 := hms.below (w' := wr.alloc (.cells #[.int .u64 (r.1 : Int), .slice Ap np cp] 101)) ((Below.refl wr.heap.size wr).alloc (Nat.le_refl _) _) hms.lt
      have hbx := heap_alloc_new wr (.cells #[.int .u64 (r.1 : Int), .slice Ap np cp] 101)
      obtain ⟨bx, hbxe⟩ : ∃ bx, wr.heap.size = bx := ⟨_, rfl⟩
      go_wp2_with fail
      generalize wr.alloc (.cells #[.int .u64 (r.1 : Int), .slice Ap np cp] 101) = W1 at hb1 hms1 hbx ⊢
      rw [hbxe] at hbx
      have hbxw : w.heap.size ≤ bx := by omega
      have x0 := blk_cell hbx 0
      have x1 := blk_cell hbx 1
      have hmbx : bx ≠ mb := hms1.ne hbx
      clear hms hbxe
      by_cases hnp0 : np = 0
      · have hno : Hid (¬ SpRight rs e) := Lib.hid fun hh => (hh k r HR.out).1 (List.eq_nil_of_length_eq_zero (by rw [HPL.out]; exact hnp0))
        have e1 : (np == 0) = true := by simp [hnp0]
        have e2 : ((np : Int) == 0) = true := by simp [hnp0]
        go_quiet (fail)
        go_wp2_with fail
        go_ret
        exact SpRightP.no hno.out (below_drewN hb1 _)
      have e1 : (np == 0) = false := by simp [hnp0]
      have e2 : ((np : Int) == 0) = false := by simp; omega
      by_cases hk0 : k = 0
      · have hrise : Hid (∀ q, 0 < k → rs[k - 1]? = some q → q.1 < r.1) := Lib.hid fun q hq => absurd hq (by omega)
        have f1 : decide (0 < k) = false := decide_eq_false (by omega)
        have f2 : decide ((0 : Int) < (k : Int)) = false := decide_eq_false (by omega)
        have a0 : True := trivial
        clear hk0
        go_quiet (fail)
        have hms2 : MSet (W1.drewN nq) mb (rpAll (rs.take k)) := hms1
        have hb2 : Below w.heap.size w (W1.drewN nq) := below_drewN hb1 nq
        have hbx2 : (W1.drewN nq).heap[bx]? = some (.cells #[.int .u64 (r.1 : Int), .slice Ap np cp] 101 (0, 0)) := hbx
        generalize W1.drewN nq = W2 at hms2 hb2 hbx2 ⊢
        have y0 := blk_cell hbx2 0
        have y1 := blk_cell hbx2 1
        clear hms1 hb1 x0 x1 hbx a0
        go_wp2_with fail
        clear y0 y1
        obtain ⟨wo, hwo⟩ : ∃ wo : World, wo = wr := ⟨_, rfl⟩
        subst hwo
        go_loopw [40] (fun i wr => ∃ j : Nat, j ≤ np ∧ i = .int .i64 (j : Int) ∧ MSet wr mb (rpAll (rs.take k) ++ r.2.take j) ∧ Hid (∀ j' p, j' < j → r.2[j']? = some p → RPage rs e k r.2 j' p) ∧ wr.heap[bx]? = some (.cells #[.int .u64 (r.1 : Int), .slice Ap np cp] 101 (0, 0)) ∧ Below w.heap.size w wr) (fun i _ => np - (intOf i).toNat)
        case atStart => exact ⟨0, Nat.zero_le _, rfl, by simpa using hms2, Lib.hid (fun _ _ h => absurd h (by omega)), hbx2, hb2⟩
        case round =>
          obtain ⟨j, hj, rfl, hms, hpj, hbx, hbw2⟩ := hrel
          clear hms2 hbx2 hb2
          have x0 := blk_cell hbx 0
          have x1 := blk_cell hbx 1
          by_cases hjl : j < np
          · obtain ⟨p, adp, hp, rfl, hcp, hpB⟩ := HPG.out wr hbw2 j hjl
            have HP := Lib.hid hp
            have hp32 : p < 4294967296 := hr2 p (List.mem_of_getElem? hp)
            clear hp
            by_cases c1 : p < 2
            · have hno : Hid (¬ SpRight rs e) := Lib.hid fun hh => by have := ((hh k r HR.out).2.2 j p HP.out).1; omega
              have e3 : decide (p < 2) = true := decide_eq_true c1
              have e3' : decide ((p : Int) < 2) = true := decide_eq_true (by omega)
              go_wp2_with fail
              go_ret
              exact SpRightP.no hno.out hbw2
            have e3 : decide (p < 2) = false := decide_eq_false c1
            have e3' : decide ((p : Int) < 2) = false := decide_eq_false (by omega)
            by_cases c2 : e ≤ p
            · have hno : Hid (¬ SpRight rs e) := Lib.hid fun hh => by have := ((hh k r HR.out).2.2 j p HP.out).2.1; omega
              have e4 : decide (e ≤ p) = true := decide_eq_true c2
              go_wp2_with fail
              go_ret
              exact SpRightP.no hno.out hbw2
            have e4 : decide (e ≤ p) = false := decide_eq_false c2
            by_cases hj0 : 0 < j
            · have g1 : decide (0 < j) = true := decide_eq_true hj0
              have g2 : decide ((0 : Int) < (j : Int)) = true := decide_eq_true (by omega)
              obtain ⟨j1, hj1⟩ : ∃ j1, j1 + 1 = j := ⟨j - 1, by omega⟩
              have hj1i : (j : Int) - 1 = (j1 : Int) := by omega
              have hj1l : j1 < np := by omega
              obtain ⟨q, adq, hq, e', hcq, _⟩ := HPG.out wr hbw2 j1 hj1l
              cases e'
              have hjj : j - 1 = j1 := by omega
              have HJ1 := Lib.hid hjj
              have HQ := Lib.hid hq
              clear hj1 hjj hq
              by_cases c3 : p ≤ q
              · have hno : Hid (¬ SpRight rs e) := Lib.hid fun hh => by have := ((hh k r HR.out).2.2 j p HP.out).2.2.1 q hj0 (by rw [HJ1.out]; exact HQ.out); omega
                have e5 : decide (p ≤ q) = true := decide_eq_true c3
                go_wp2_with fail
                go_ret
                exact SpRightP.no hno.out hbw2
              have e5 : decide (p ≤ q) = false := decide_eq_false c3
              have hrj : Hid (∀ q', 0 < j → r.2[j - 1]? = some q' → q' < p) := Lib.hid fun q' _ hq' => by
                rw [HJ1.out, HQ.out] at hq'
                cases hq'
                omega
              have hSl : (rpAll (rs.take k) ++ r.2.take j).length ≤ 1000000000 := Nat.le_trans (rpAll_take_le rs HR.out j) htot
              have hS1 : rpAll (rs.take k) ++ r.2.take (j + 1) = (rpAll (rs.take k) ++ r.2.take j) ++ [p] := by rw [rtake_succ HP.out, List.append_assoc]
              obtain ⟨S, hS⟩ : ∃ S, rpAll (rs.take k) ++ r.2.take j = S := ⟨_, rfl⟩
              rw [hS] at hms hSl hS1
              have HS := Lib.hid hS
              have HS1 := Lib.hid hS1
              clear hS hS1
              by_cases hin : p ∈ S
              · have hno : Hid (¬ SpRight rs e) := Lib.hid fun hh => ((hh k r HR.out).2.2 j p HP.out).2.2.2 (by rw [HS.out]; exact hin)
                have hd : decide (p ∈ S) = true := decide_eq_true hin
                clear hin
                go_wp2_with fail
                refine (has_any _ _ S hms p hp32).mono ?_
                rintro x w3 ⟨rfl, hb3'⟩
                rw [hd]
                have hb3 := hbw2.trans (hb3'.mono hbw2.size)
                go_wp2_with fail
                go_ret
                exact SpRightP.no hno.out hb3
              · have hpj2 : Hid (∀ j' p', j' < j + 1 → r.2[j']? = some p' → RPage rs e k r.2 j' p') := Lib.hid fun j' p' hj' hp' => by
                  by_cases ej : j' = j
                  · subst ej
                    rw [HP.out] at hp'
                    cases hp'
                    exact ⟨by omega, by omega, hrj.out, by rw [HS.out]; exact hin⟩
                  · exact hpj.out j' p' (by omega) hp'
                have hd : decide (p ∈ S) = false := decide_eq_false hin
                clear hpj
                go_wp2_with fail
                refine (has_any _ _ S hms p hp32).mono ?_
                rintro x w3 ⟨rfl, hb3'⟩
                rw [hd]
                have hb3 := hbw2.trans (hb3'.mono hbw2.size)
                have hms3 := hms.below hb3' hms.lt
                have hbx3 := blk_below hbx hb3' (blk_lt hbx)
                have hz3 := hb3.size
                clear hms hbx hb3' x0 x1
                go_wp2_with fail
                refine (add_any _ _ S hms3 hSl p hp32 hin).mono ?_
                rintro x w4 ⟨rfl, hms4, hg4⟩
                have hb4 := hb3.grown hg4 hz3 (fun k hk => by cases hk; exact hmbl)
                have hbx4 := blk_grown hbx3 hg4 (fun e => hmbx (by injection e))
                clear hms3 hbx3 hg4 hd
                go_wp2_with fail
                exact ⟨⟨j + 1, by omega, by go_num, by rw [HS1.out]; exact hms4, hpj2, hbx4, hb4⟩, by simp [intOf]; omega⟩
            · have g1 : decide (0 < j) = false := decide_eq_false hj0
              have g2 : decide ((0 : Int) < (j : Int)) = false := decide_eq_false (by omega)
              have hrj : Hid (∀ q', 0 < j → r.2[j - 1]? = some q' → q' < p) := Lib.hid fun q' hq' => absurd hq' hj0
              have hSl : (rpAll (rs.take k) ++ r.2.take j).length ≤ 1000000000 := Nat.le_trans (rpAll_take_le rs HR.out j) htot
              have hS1 : rpAll (rs.take k) ++ r.2.take (j + 1) = (rpAll (rs.take k) ++ r.2.take j) ++ [p] := by rw [rtake_succ HP.out, List.append_assoc]
              obtain ⟨S, hS⟩ : ∃ S, rpAll (rs.take k) ++ r.2.take j = S := ⟨_, rfl⟩
              rw [hS] at hms hSl hS1
              have HS := Lib.hid hS
              have HS1 := Lib.hid hS1
              clear hS hS1
              by_cases hin : p ∈ S
              · have hno : Hid (¬ SpRight rs e) := Lib.hid fun hh => ((hh k r HR.out).2.2 j p HP.out).2.2.2 (by rw [HS.out]; exact hin)
                have hd : decide (p ∈ S) = true := decide_eq_true hin
                clear hin
                go_wp2_with fail
                refine (has_any _ _ S hms p hp32).mono ?_
                rintro x w3 ⟨rfl, hb3'⟩
                rw [hd]
                have hb3 := hbw2.trans (hb3'.mono hbw2.size)
                go_wp2_with fail
                go_ret
                exact SpRightP.no hno.out hb3
              · have hpj2 : Hid (∀ j' p', j' < j + 1 → r.2[j']? = some p' → RPage rs e k r.2 j' p') := Lib.hid fun j' p' hj' hp' => by
                  by_cases ej : j' = j
                  · subst ej
                    rw [HP.out] at hp'
                    cases hp'
                    exact ⟨by omega, by omega, hrj.out, by rw [HS.out]; exact hin⟩
                  · exact hpj.out j' p' (by omega) hp'
                have hd : decide (p ∈ S) = false := decide_eq_false hin
                clear hpj
                go_wp2_with fail
                refine (has_any _ _ S hms p hp32).mono ?_
                rintro x w3 ⟨rfl, hb3'⟩
                rw [hd]
                have hb3 := hbw2.trans (hb3'.mono hbw2.size)
                have hms3 := hms.below hb3' hms.lt
                have hbx3 := blk_below hbx hb3' (blk_lt hbx)
                have hz3 := hb3.size
                clear hms hbx hb3' x0 x1
                go_wp2_with fail
                refine (add_any _ _ S hms3 hSl p hp32 hin).mono ?_
                rintro x w4 ⟨rfl, hms4, hg4⟩
                have hb4 := hb3.grown hg4 hz3 (fun k hk => by cases hk; exact hmbl)
                have hbx4 := blk_grown hbx3 hg4 (fun e => hmbx (by injection e))
                clear hms3 hbx3 hg4 hd
                go_wp2_with fail
                exact ⟨⟨j + 1, by omega, by go_num, by rw [HS1.out]; exact hms4, hpj2, hbx4, hb4⟩, by simp [intOf]; omega⟩
          · obtain rfl : j = np := by omega
            have hjt : r.2.take j = r.2 := by rw [← HPL.out, List.take_length]
            have hS1 : rpAll (rs.take (k + 1)) = rpAll (rs.take k) ++ r.2.take j := by rw [hjt, rtake_succ HR.out, rpAll_snoc]
            have HS1 := Lib.hid hS1
            have hpre2 : Hid (∀ k' r', k' < k + 1 → rs[k']? = some r' → RRec rs e k' r') := Lib.hid fun k' r' hk' hr' => by
              by_cases ek : k' = k
              · subst ek
                rw [HR.out] at hr'
                cases hr'
                exact ⟨fun h0 => hnp0 (by rw [← HPL.out, h0]; rfl), hrise.out, fun j' p hp => hpj.out j' p (by have := (List.getElem?_eq_some_iff.1 hp).1; rw [HPL.out] at this; exact this) hp⟩
              · exact hpre.out k' r' (by omega) hr'
            clear hjt hS1 hpj hpre
            go_wp2_with fail
            exact ⟨⟨k + 1, by omega, by go_num, by rw [HS1.out]; exact hms, hpre2, hbw2⟩, by simp [intOf]; omega⟩
      · have f1 : decide (0 < k) = true := decide_eq_true (by omega)
        have f2 : decide ((0 : Int) < (k : Int)) = true := decide_eq_true (by omega)
        obtain ⟨k1, hk1⟩ : ∃ k1, k1 + 1 = k := ⟨k - 1, by omega⟩
        have hk1i : (k : Int) - 1 = (k1 : Int) := by omega
        have hk1w : IntKind.i64.wrap ((k : Int) - 1) = (k1 : Int) := by rw [hk1i]; exact IntWalk.i64_in _ (by omega)
        obtain ⟨q, adq, _, _, _, hq, e', hRQ⟩ := h.at_ (i := k1) (by omega)
        cases e'
        have a0 : W1.cell? (ad.add (k1 * 2)) = some (.int .u64 (q.1 : Int)) := (hb1.cell (Nat.lt_of_lt_of_le hRQ.1 hBw)).trans hRQ.2.1
        have hkk : k - 1 = k1 := by omega
        have HK1 := Lib.hid hkk
        have HQ := Lib.hid hq
        have hk1l : k1 < n := by omega
        clear hk1 hkk hq hRQ
        by_cases c0 : r.1 ≤ q.1
        · have hno : Hid (¬ SpRight rs e) := Lib.hid fun hh => by have := (hh k r HR.out).2.1 q (by omega) (by rw [HK1.out]; exact HQ.out); omega
          have e3 : decide (r.1 ≤ q.1) = true := decide_eq_true c0
          go_quiet (fail)
          go_wp2_with fail
          go_ret
          exact SpRightP.no hno.out (below_drewN hb1 _)
        have e3 : decide (r.1 ≤ q.1) = false := decide_eq_false c0
        have hrise : Hid (∀ q', 0 < k → rs[k - 1]? = some q' → q'.1 < r.1) := Lib.hid fun q' _ hq' => by
          rw [HK1.out, HQ.out] at hq'
          cases hq'
          omega
        go_quiet (fail)
        have hms2 : MSet (W1.drewN nq) mb (rpAll (rs.take k)) := hms1
        have hb2 : Below w.heap.size w (W1.drewN nq) := below_drewN hb1 nq
        have hbx2 : (W1.drewN nq).heap[bx]? = some (.cells #[.int .u64 (r.1 : Int), .slice Ap np cp] 101 (0, 0)) := hbx
        generalize W1.drewN nq = W2 at hms2 hb2 hbx2 ⊢
        have y0 := blk_cell hbx2 0
        have y1 := blk_cell hbx2 1
        clear hms1 hb1 x0 x1 hbx a0
        go_wp2_with fail
        clear y0 y1
        obtain ⟨wo, hwo⟩ : ∃ wo : World, wo = wr := ⟨_, rfl⟩
        subst hwo
        go_loopw [40] (fun i wr => ∃ j : Nat, j ≤ np ∧ i = .int .i64 (j : Int) ∧ MSet wr mb (rpAll (rs.take k) ++ r.2.take j) ∧ Hid (∀ j' p, j' < j → r.2[j']? = some p → RPage rs e k r.2 j' p) ∧ wr.heap[bx]? = some (.cells #[.int .u64 (r.1 : Int), .slice Ap np cp] 101 (0, 0)) ∧ Below w.heap.size w wr) (fun i _ => np - (intOf i).toNat)
        case atStart => exact ⟨0, Nat.zero_le _, rfl, by simpa using hms2, Lib.hid (fun _ _ h => absurd h (by omega)), hbx2, hb2⟩
        case round =>
          obtain ⟨j, hj, rfl, hms, hpj, hbx, hbw2⟩ := hrel
          clear hms2 hbx2 hb2
          have x0 := blk_cell hbx 0
          have x1 := blk_cell hbx 1
          by_cases hjl : j < np
          · obtain ⟨p, adp, hp, rfl, hcp, hpB⟩ := HPG.out wr hbw2 j hjl
            have HP := Lib.hid hp
            have hp32 : p < 4294967296 := hr2 p (List.mem_of_getElem? hp)
            clear hp
            by_cases c1 : p < 2
            · have hno : Hid (¬ SpRight rs e) := Lib.hid fun hh => by have := ((hh k r HR.out).2.2 j p HP.out).1; omega
              have e3 : decide (p < 2) = true := decide_eq_true c1
              have e3' : decide ((p : Int) < 2) = true := decide_eq_true (by omega)
              go_wp2_with fail
              go_ret
              exact SpRightP.no hno.out hbw2
            have e3 : decide (p < 2) = false := decide_eq_false c1
            have e3' : decide ((p : Int) < 2) = false := decide_eq_false (by omega)
            by_cases c2 : e ≤ p
            · have hno : Hid (¬ SpRight rs e) := Lib.hid fun hh => by have := ((hh k r HR.out).2.2 j p HP.out).2.1; omega
              have e4 : decide (e ≤ p) = true := decide_eq_true c2
              go_wp2_with fail
              go_ret
              exact SpRightP.no hno.out hbw2
            have e4 : decide (e ≤ p) = false := decide_eq_false c2
            by_cases hj0 : 0 < j
            · have g1 : decide (0 < j) = true := decide_eq_true hj0
              have g2 : decide ((0 : Int) < (j : Int)) = true := decide_eq_true (by omega)
              obtain ⟨j1, hj1⟩ : ∃ j1, j1 + 1 = j := ⟨j - 1, by omega⟩
              have hj1i : (j : Int) - 1 = (j1 : Int) := by omega
              have hj1l : j1 < np := by omega
              obtain ⟨q, adq, hq, e', hcq, _⟩ := HPG.out wr hbw2 j1 hj1l
              cases e'
              have hjj : j - 1 = j1 := by omega
              have HJ1 := Lib.hid hjj
              have HQ := Lib.hid hq
              clear hj1 hjj hq
              by_cases c3 : p ≤ q
              · have hno : Hid (¬ SpRight rs e) := Lib.hid fun hh => by have := ((hh k r HR.out).2.2 j p HP.out).2.2.1 q hj0 (by rw [HJ1.out]; exact HQ.out); omega
                have e5 : decide (p ≤ q) = true := decide_eq_true c3
                go_wp2_with fail
                go_ret
                exact SpRightP.no hno.out hbw2
              have e5 : decide (p ≤ q) = false := decide_eq_false c3
              have hrj : Hid (∀ q', 0 < j → r.2[j - 1]? = some q' → q' < p) := Lib.hid fun q' _ hq' => by
                rw [HJ1.out, HQ.out] at hq'
                cases hq'
                omega
              have hSl : (rpAll (rs.take k) ++ r.2.take j).length ≤ 1000000000 := Nat.le_trans (rpAll_take_le rs HR.out j) htot
              have hS1 : rpAll (rs.take k) ++ r.2.take (j + 1) = (rpAll (rs.take k) ++ r.2.take j) ++ [p] := by rw [rtake_succ HP.out, List.append_assoc]
              obtain ⟨S, hS⟩ : ∃ S, rpAll (rs.take k) ++ r.2.take j = S := ⟨_, rfl⟩
              rw [hS] at hms hSl hS1
              have HS := Lib.hid hS
              have HS1 := Lib.hid hS1
              clear hS hS1
              by_cases hin : p ∈ S
              · have hno : Hid (¬ SpRight rs e) := Lib.hid fun hh => ((hh k r HR.out).2.2 j p HP.out).2.2.2 (by rw [HS.out]; exact hin)
                have hd : decide (p ∈ S) = true := decide_eq_true hin
                clear hin
                go_wp2_with fail
                refine (has_any _ _ S hms p hp32).mono ?_
                rintro x w3 ⟨rfl, hb3'⟩
                rw [hd]
                have hb3 := hbw2.trans (hb3'.mono hbw2.size)
                go_wp2_with fail
                go_ret
                exact SpRightP.no hno.out hb3
              · have hpj2 : Hid (∀ j' p', j' < j + 1 → r.2[j']? = some p' → RPage rs e k r.2 j' p') := Lib.hid fun j' p' hj' hp' => by
                  by_cases ej : j' = j
                  · subst ej
                    rw [HP.out] at hp'
                    cases hp'
                    exact ⟨by omega, by omega, hrj.out, by rw [HS.out]; exact hin⟩
                  · exact hpj.out j' p' (by omega) hp'
                have hd : decide (p ∈ S) = false := decide_eq_false hin
                clear hpj
                go_wp2_with fail
                refine (has_any _ _ S hms p hp32).mono ?_
                rintro x w3 ⟨rfl, hb3'⟩
                rw [hd]
                have hb3 := hbw2.trans (hb3'.mono hbw2.size)
                have hms3 := hms.below hb3' hms.lt
                have hbx3 := blk_below hbx hb3' (blk_lt hbx)
                have hz3 := hb3.size
                clear hms hbx hb3' x0 x1
                go_wp2_with fail
                refine (add_any _ _ S hms3 hSl p hp32 hin).mono ?_
                rintro x w4 ⟨rfl, hms4, hg4⟩
                have hb4 := hb3.grown hg4 hz3 (fun k hk => by cases hk; exact hmbl)
                have hbx4 := blk_grown hbx3 hg4 (fun e => hmbx (by injection e))
                clear hms3 hbx3 hg4 hd
                go_wp2_with fail
                exact ⟨⟨j + 1, by omega, by go_num, by rw [HS1.out]; exact hms4, hpj2, hbx4, hb4⟩, by simp [intOf]; omega⟩
            · have g1 : decide (0 < j) = false := decide_eq_false hj0
              have g2 : decide ((0 : Int) < (j : Int)) = false := decide_eq_false (by omega)
              have hrj : Hid (∀ q', 0 < j → r.2[j - 1]? = some q' → q' < p) := Lib.hid fun q' hq' => absurd hq' hj0
              have hSl : (rpAll (rs.take k) ++ r.2.take j).length ≤ 1000000000 := Nat.le_trans (rpAll_take_le rs HR.out j) htot
              have hS1 : rpAll (rs.take k) ++ r.2.take (j + 1) = (rpAll (rs.take k) ++ r.2.take j) ++ [p] := by rw [rtake_succ HP.out, List.append_assoc]
              obtain ⟨S, hS⟩ : ∃ S, rpAll (rs.take k) ++ r.2.take j = S := ⟨_, rfl⟩
              rw [hS] at hms hSl hS1
              have HS := Lib.hid hS
              have HS1 := Lib.hid hS1
              clear hS hS1
              by_cases hin : p ∈ S
              · have hno : Hid (¬ SpRight rs e) := Lib.hid fun hh => ((hh k r HR.out).2.2 j p HP.out).2.2.2 (by rw [HS.out]; exact hin)
                have hd : decide (p ∈ S) = true := decide_eq_true hin
                clear hin
                go_wp2_with fail
                refine (has_any _ _ S hms p hp32).mono ?_
                rintro x w3 ⟨rfl, hb3'⟩
                rw [hd]
                have hb3 := hbw2.trans (hb3'.mono hbw2.size)
                go_wp2_with fail
                go_ret
                exact SpRightP.no hno.out hb3
              · have hpj2 : Hid (∀ j' p', j' < j + 1 → r.2[j']? = some p' → RPage rs e k r.2 j' p') := Lib.hid fun j' p' hj' hp' => by
                  by_cases ej : j' = j
                  · subst ej
                    rw [HP.out] at hp'
                    cases hp'
                    exact ⟨by omega, by omega, hrj.out, by rw [HS.out]; exact hin⟩
                  · exact hpj.out j' p' (by omega) hp'
                have hd : decide (p ∈ S) = false := decide_eq_false hin
                clear hpj
                go_wp2_with fail
                refine (has_any _ _ S hms p hp32).mono ?_
                rintro x w3 ⟨rfl, hb3'⟩
                rw [hd]
                have hb3 := hbw2.trans (hb3'.mono hbw2.size)
                have hms3 := hms.below hb3' hms.lt
                have hbx3 := blk_below hbx hb3' (blk_lt hbx)
                have hz3 := hb3.size
                clear hms hbx hb3' x0 x1
                go_wp2_with fail
                refine (add_any _ _ S hms3 hSl p hp32 hin).mono ?_
                rintro x w4 ⟨rfl, hms4, hg4⟩
                have hb4 := hb3.grown hg4 hz3 (fun k hk => by cases hk; exact hmbl)
                have hbx4 := blk_grown hbx3 hg4 (fun e => hmbx (by injection e))
                clear hms3 hbx3 hg4 hd
                go_wp2_with fail
                exact ⟨⟨j + 1, by omega, by go_num, by rw [HS1.out]; exact hms4, hpj2, hbx4, hb4⟩, by simp [intOf]; omega⟩
          · obtain rfl : j = np := by omega
            have hjt : r.2.take j = r.2 := by rw [← HPL.out, List.take_length]
            have hS1 : rpAll (rs.take (k + 1)) = rpAll (rs.take k) ++ r.2.take j := by rw [hjt, rtake_succ HR.out, rpAll_snoc]
            have HS1 := Lib.hid hS1
            have hpre2 : Hid (∀ k' r', k' < k + 1 → rs[k']? = some r' → RRec rs e k' r') := Lib.hid fun k' r' hk' hr' => by
              by_cases ek : k' = k
              · subst ek
                rw [HR.out] at hr'
                cases hr'
                exact ⟨fun h0 => hnp0 (by rw [← HPL.out, h0]; rfl), hrise.out, fun j' p hp => hpj.out j' p (by have := (List.getElem?_eq_some_iff.1 hp).1; rw [HPL.out] at this; exact this) hp⟩
              · exact hpre.out k' r' (by omega) hr'
            clear hjt hS1 hpj hpre
            go_wp2_with fail
            exact ⟨⟨k + 1, by omega, by go_num, by rw [HS1.out]; exact hms, hpre2, hbw2⟩, by simp [intOf]; omega⟩
    · obtain rfl : k = n := by omega
      have hall : Hid (SpRight rs e) := Lib.hid (fun k' r hr => hpre.out k' r (by rw [← hlen]; exact (List.getElem?_eq_some_iff.1 hr).1) hr)
      clear hpre
      go_wp2_with fail
      go_ret
      exact ⟨true, rfl, iff_of_true rfl hall.out, hbw⟩

end Go.Proofs.Ythijobbhpbklmaa

/- Layer 8: New, plain. -/
namespace Go.Proofs.Ythijobbhpbklmaa
open Go.RowKit
set_option linter.unusedVariables false
set_option linter.unusedSimpArgs false

def wOld (o : Nat) (rs : List FRc) : List FRc := rs.filter fun r => decide (r.1 ≤ o)
def wNew (o : Nat) (rs : List FRc) : List FRc := rs.filter fun r => !decide (r.1 ≤ o)
/-- New -/
def sNew (e l o : Nat) (rs : List FRc) : Sp := ⟨e, l, wNew o rs, rpAll (wOld o rs), [], [], rpAll (wNew o rs)⟩
theorem rpAll_mem {rs : List FRc} {p : Nat} : p ∈ rpAll rs ↔ ∃ r ∈ rs, p ∈ r.2 := by simp [rpAll]
theorem sNew_mem {e l o : Nat} {rs : List FRc} {p : Nat} : (p ∈ (sNew e l o rs).us ∨ p ∈ (sNew e l o rs).hd) ↔ p ∈ rpAll rs := by
  show (p ∈ rpAll (wOld o rs) ∨ p ∈ rpAll (wNew o rs)) ↔ _
  rw [rpAll_mem, rpAll_mem, rpAll_mem]
  constructor
  · rintro (⟨r, h1, h2⟩ | ⟨r, h1, h2⟩)
    · exact ⟨r, (List.mem_filter.1 h1).1, h2⟩
    · exact ⟨r, (List.mem_filter.1 h1).1, h2⟩
  · rintro ⟨r, h1, h2⟩
    by_cases h : r.1 ≤ o
    · exact .inl ⟨r, List.mem_filter.2 ⟨h1, by simpa using h⟩, h2⟩
    · exact .inr ⟨r, List.mem_filter.2 ⟨h1, by simpa using h⟩, h2⟩
theorem sNew_old {e l o : Nat} {rs : List FRc} {r : FRc} (h : r.1 ≤ o) : sNew e l o (rs ++ [r]) = { sNew e l o rs with us := (sNew e l o rs).us ++ r.2 } := by
  have h1 : wOld o (rs ++ [r]) = wOld o rs ++ [r] := by simp [wOld, h]
  have h2 : wNew o (rs ++ [r]) = wNew o rs := by simp [wNew, h]
  unfold sNew
  rw [h1, h2, rpAll_snoc]
theorem sNew_new {e l o : Nat} {rs : List FRc} {r : FRc} (h : ¬ r.1 ≤ o) : sNew e l o (rs ++ [r]) = { sNew e l o rs with wait := (sNew e l o rs).wait ++ [r], hd := (sNew e l o rs).hd ++ r.2 } := by
  have h1 : wOld o (rs ++ [r]) = wOld o rs := by simp [wOld, h]
  have h2 : wNew o (rs ++ [r]) = wNew o rs ++ [r] := by simp [wNew, h]
  unfold sNew
  rw [h1, h2, rpAll_snoc]
theorem sNew_nil_ok {e l o : Nat} (h1 : 2 ≤ e) (h2 : e ≤ l) (h3 : l ≤ 65536) : (sNew e l o []).OK :=
  ⟨h1, h2, h3, (by intro p hp; cases hp), (by intro p hp; cases hp), (by intro p hp; cases hp), (by intro p hp; cases hp), (by intro p hp; cases hp), (by intro p hp; cases hp), (by intro p hp; cases hp), (by intro p hp; cases hp), (by intro p hp; cases hp), (by intro p hp; cases hp), List.nodup_nil, List.nodup_nil, List.nodup_nil, List.nodup_nil⟩
/-- One page more that may be used, or is held; nothing is fresh or gone yet. -/
theorem Sp.OK.us1 {S : Sp} (h : S.OK) (hf : S.fr = []) (hg : S.gn = []) {p : Nat} (h1 : 2 ≤ p ∧ p < S.fin) (hn : ¬ (p ∈ S.us ∨ p ∈ S.hd)) : ({ S with us := S.us ++ [p] } : Sp).OK := by
  refine ⟨h.e1, h.e2, h.e3, ?_, h.f1, h.g1, h.h1, ?_, ?_, ?_, h.fg, h.fh, h.gh, ?_, h.fn, h.gd, h.hn⟩
  · intro x hx
    rcases List.mem_append.1 hx with hx | hx
    · exact h.u1 x hx
    · rw [List.mem_singleton.1 hx]; exact h1
  · intro x _ hy; rw [show ({ S with us := S.us ++ [p] } : Sp).fr = [] from hf] at hy; cases hy
  · intro x _ hy; rw [show ({ S with us := S.us ++ [p] } : Sp).gn = [] from hg] at hy; cases hy
  · intro x hx hy
    rcases List.mem_append.1 hx with hx | hx
    · exact h.uh x hx hy
    · rw [List.mem_singleton.1 hx] at hy; exact hn (.inr hy)
  · exact List.nodup_append.2 ⟨h.un, by simp, fun a ha c hc e => by rw [List.mem_singleton.1 hc] at e; exact hn (.inl (e ▸ ha))⟩
theorem Sp.OK.hd1 {S : Sp} (h : S.OK) (hf : S.fr = []) (hg : S.gn = []) {p : Nat} (h1 : 2 ≤ p ∧ p < S.fin) (hn : ¬ (p ∈ S.us ∨ p ∈ S.hd)) : ({ S with hd := S.hd ++ [p] } : Sp).OK := by
  refine ⟨h.e1, h.e2, h.e3, h.u1, h.f1, h.g1, ?_, h.uf, h.ug, ?_, h.fg, ?_, ?_, h.un, h.fn, h.gd, ?_⟩
  · intro x hx
    rcases List.mem_append.1 hx with hx | hx
    · exact h.h1 x hx
    · rw [List.mem_singleton.1 hx]; exact h1
  · intro x hx hy
    rcases List.mem_append.1 hy with hy | hy
    · exact h.uh x hx hy
    · rw [List.mem_singleton.1 hy] at hx; exact hn (.inl hx)
  · intro x hx _; rw [show ({ S with hd := S.hd ++ [p] } : Sp).fr = [] from hf] at hx; cases hx
  · intro x hx _; rw [show ({ S with hd := S.hd ++ [p] } : Sp).gn = [] from hg] at hx; cases hx
  · exact List.nodup_append.2 ⟨h.hn, by simp, fun a ha c hc e => by rw [List.mem_singleton.1 hc] at e; exact hn (.inr (e ▸ ha))⟩
theorem Sp.OK.rewait {S : Sp} (h : S.OK) (ws : List FRc) : ({ S with wait := ws } : Sp).OK :=
  ⟨h.e1, h.e2, h.e3, h.u1, h.f1, h.g1, h.h1, h.uf, h.ug, h.uh, h.fg, h.fh, h.gh, h.un, h.fn, h.gd, h.hn⟩
/-- A set's row in memory: one page more in the map of those that may be used. -/
theorem SAt.us1 {w w' : World} {base p : Nat} {ok : Nat → Prop} {S : Sp} {Wv : Value} {bu bf bg bh q : Nat} (h : SAt w base ok p S Wv bu bf bg bh) (hu : MSet w' bu (S.us ++ [q])) (hg : w.grownBy w' (some bu)) (hok : ({ S with us := S.us ++ [q] } : Sp).OK) : SAt w' base ok p { S with us := S.us ++ [q] } Wv bu bf bg bh := by
  obtain ⟨n1, n2, n3, n4, n5, n6⟩ := h.d1
  exact ⟨h.blk.grown h.su hg, h.bp, h.okp, h.row.grown h.su hg, hu, h.sf.grown_ (Ne.symm n1) hg, h.sg.grown_ (Ne.symm n2) hg, h.sh.grown_ (Ne.symm n3) hg, h.b1, h.o1, h.d1, hok⟩
theorem SAt.hd1 {w w' : World} {base p : Nat} {ok : Nat → Prop} {S : Sp} {Wv : Value} {bu bf bg bh q : Nat} (h : SAt w base ok p S Wv bu bf bg bh) (hu : MSet w' bh (S.hd ++ [q])) (hg : w.grownBy w' (some bh)) (hok : ({ S with hd := S.hd ++ [q] } : Sp).OK) : SAt w' base ok p { S with hd := S.hd ++ [q] } Wv bu bf bg bh := by
  obtain ⟨n1, n2, n3, n4, n5, n6⟩ := h.d1
  exact ⟨h.blk.grown h.sh hg, h.bp, h.okp, h.row.grown h.sh hg, h.su.grown_ n3 hg, h.sf.grown_ n5 hg, h.sg.grown_ n6 hg, hu, h.b1, h.o1, h.d1, hok⟩
end Go.Proofs.Ythijobbhpbklmaa

/- Layer 8: New: one record more that waits, in memory. -/
namespace Go.Proofs.Ythijobbhpbklmaa
open Go.RowKit
set_option linter.unusedVariables false
set_option linter.unusedSimpArgs false

theorem info_rec : (Try.prog.info? 101).map (fun i => (i.zero, i.size, i.bytes)) = some (some (.agg #[.int .u64 0, .slice none 0 0]), 2, 32) := by kernel_rfl
theorem wait_step {w5 w8 : World} {base p : Nat} {ok : Nat → Prop} {S : Sp} {Wv : Value} {bu bf bg bh : Nat} (h : SAt w5 base ok p S Wv bu bf bg bh) (hfr : ∀ k, w5.heap.size ≤ k → ok k) {r : FRc} {A5 : Option Addr} {n5 c5 : Nat}
    (hp5 : w5.ownsRow base 73 1 (.slice A5 n5 c5) n5 (r.2.map encP)) (hpo : ∀ k, (Value.slice A5 n5 c5).ownBlock = some k → ok k) {cs : List Value} {tmp : Obj}
    (ho : w5.ownsRow base 101 2 Wv S.wait.length cs) (hok : ∀ k, Wv.ownBlock = some k → ok k)
    (hrow : ∀ (i : Nat) (r : Nat × List Nat), S.wait[i]? = some r → ∃ A' n' c', cs[i * 2]? = some (.int .u64 (r.1 : Int)) ∧ cs[i * 2 + 1]? = some (.slice A' n' c') ∧ w5.ownsRow base 73 1 (.slice A' n' c') n' (r.2.map encP) ∧ ∀ k, (Value.slice A' n' c').ownBlock = some k → ok k)
    {v8 : Value} (hown8 : w8.ownsRow base 101 2 v8 (S.wait.length + 1) (cs ++ [.int .u64 (r.1 : Int), .slice A5 n5 c5])) (hg8 : (w5.alloc tmp).grownBy w8 Wv.ownBlock) (hat8 : v8.ownBlock = Wv.ownBlock ∨ v8.ownBlock = some (w5.alloc tmp).heap.size) :
    w8.heap[p]? = w5.heap[p]? ∧ SAt (w8.setCell ⟨p, 2, none⟩ v8) base ok p { S with wait := S.wait ++ [r] } v8 bu bf bg bh ∧ SFr ok w5 (w8.setCell ⟨p, 2, none⟩ v8) := by
  have hst : ∀ (g : Nat) (o : Obj), w5.heap[g]? = some o → (∀ C, o ≠ .cells C 101 (0, 0)) → w8.heap[g]? = w5.heap[g]? := fun g o hg hne => by
    have h1 : (w5.alloc tmp).heap[g]? = w5.heap[g]? := Below.heap_alloc w5 _ g (blk_lt hg)
    refine (hg8.block g (by have := blk_lt hg; simp; omega) (fun e => ?_)).trans h1
    rcases ho.2 with ⟨hv, _⟩ | ⟨g', cap, cur, hv, _, hh, _⟩
    · rw [hv] at e; simp [Value.ownBlock] at e
    · rw [hv] at e
      have e : g = g' := by simpa [Value.ownBlock] using e
      subst e
      rw [hh] at hg
      injection hg with hg
      exact hne _ hg.symm
  have hst2 : ∀ (g : Nat) (C : Array Value) (t : TypeId), t ≠ 101 → w5.heap[g]? = some (.cells C t (0, 0)) → w8.heap[g]? = w5.heap[g]? := fun g C t ht hg => hst g _ hg (fun C' e => by injection e with _ e; exact ht e)
  have hp8 := hst2 p _ _ (by decide) h.blk
  have hbl8 : SBlk w8 p S.fin S.lim Wv bu bf bg bh := hp8.trans h.blk
  have hmap : ∀ {b : Nat} {T : List Nat}, MSet w5 b T → MSet (w8.setCell ⟨p, 2, none⟩ v8) b T := fun {b T} hm => by
    refine hm.block ((Below.heap_setCell _ _ _ _ (fun e => ?_)).trans ?_)
    · exact hm.ne h.blk e.symm
    · obtain ⟨_, n, D, ⟨es, clock, hb, _⟩, _⟩ := hm
      exact hst b _ hb (fun C e => by cases e)
  have hne8 : ∀ (g : Nat) (C : Array Value) (t : TypeId), t ≠ 143 → w8.heap[g]? = some (.cells C t (0, 0)) → (w8.setCell ⟨p, 2, none⟩ v8).heap[g]? = w8.heap[g]? := fun g C t ht hg => Below.heap_setCell _ _ _ _ (fun e => by
    have e : g = p := e
    subst e
    unfold SBlk at hbl8
    rw [hg] at hbl8
    injection hbl8 with hbl8
    injection hbl8 with _ hbl8
    exact ht hbl8)
  have hpg : ∀ {A : Option Addr} {n c : Nat} {l : List Nat}, w5.ownsRow base 73 1 (.slice A n c) n (l.map encP) → (w8.setCell ⟨p, 2, none⟩ v8).ownsRow base 73 1 (.slice A n c) n (l.map encP) := fun {A n c l} hx =>
    own_move_ hx (fun g C _ hC => (hne8 g C _ (by decide) ((hst2 g C _ (by decide) hC).trans hC)).trans (hst2 g C _ (by decide) hC))
  have hWR : WRow (w8.setCell ⟨p, 2, none⟩ v8) base ok v8 (S.wait ++ [r]) := by
    obtain ⟨A8, c8, rfl⟩ := own_slice hown8
    have hown9 := own_move_ hown8 (w' := w8.setCell ⟨p, 2, none⟩ (.slice A8 (S.wait.length + 1) c8)) (fun g C _ hC => hne8 g C _ (by decide) hC)
    refine ⟨A8, c8, _, by simp, by simpa using hown9, fun k hk => ?_, fun i r' hi => ?_⟩
    · rcases hat8 with e | e
      · exact hok k (e ▸ hk)
      · rw [e] at hk
        injection hk with hk
        exact hfr k (by subst hk; simp)
    · have hcl : cs.length = S.wait.length * 2 := ho.1
      by_cases hlt : i < S.wait.length
      · rw [List.getElem?_append_left hlt] at hi
        obtain ⟨A', n', c', h1, h2, h3, h4⟩ := hrow i r' hi
        exact ⟨A', n', c', by rw [List.getElem?_append_left (by omega)]; exact h1, by rw [List.getElem?_append_left (by omega)]; exact h2, hpg h3, h4⟩
      · have hl := (List.getElem?_eq_some_iff.1 hi).1
        simp at hl
        obtain rfl : i = S.wait.length := by omega
        simp at hi
        subst hi
        exact ⟨A5, n5, c5, by rw [List.getElem?_append_right (by omega), hcl, Nat.sub_self]; rfl, by rw [List.getElem?_append_right (by omega), hcl, show S.wait.length * 2 + 1 - S.wait.length * 2 = 1 by omega]; rfl, hpg hp5, hpo⟩
  refine ⟨hp8, ⟨hbl8.set2 v8, h.bp, h.okp, hWR, hmap h.su, hmap h.sf, hmap h.sg, hmap h.sh, h.b1, h.o1, h.d1, h.wf.rewait _⟩, ?_⟩
  have hs8 := hg8.size
  refine ⟨by show w8.os = _; exact hg8.os, hg8.tape, hg8.output, ?_, fun k hk hno => ?_⟩
  · simp only [World.setCell] at *
    simp at hs8 ⊢
    omega
  · refine (Below.heap_setCell _ _ _ _ (fun e => hno (by have e : k = p := e; rw [e]; exact h.okp))).trans ((hg8.block k (by simp; omega) (fun e => hno (hok k e.symm))).trans (Below.heap_alloc w5 _ k hk))
end Go.Proofs.Ythijobbhpbklmaa
