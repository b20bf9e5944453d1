/- Layer 3: the disk in memory; New, Size, Len, Limit, Loose, Calls, count, Fail, there. -/
import Derived.Test.YthijobbhpbklmaaDkP
import Derived.Laws.LoneSync
import Derived.Laws.Pointers
import Derived.Defers
namespace Go.Proofs.Ythijobbhpbklmaa
open Go.RowKit
set_option linter.unusedVariables false
set_option linter.unusedSimpArgs false

theorem info_u8 : (Try.prog.info? 5).map (fun i => (i.zero, i.size, i.bytes)) = some (some (.int .u8 0), 1, 1) := by kernel_rfl
theorem clone_any (w : World) (B : Nat) (A : Option Addr) (n c : Nat) (l : List UInt8) (h : Sl w B A n c l) (hn : n ≤ 140737488355328) :
    Calls Try.prog 58 #[.slice A n c] w fun e w' => ∃ v, e = .returned v ∧ w'.ownsRow w.heap.size 5 1 v n (bv l) ∧ Below w.heap.size w w' := by
  obtain ⟨i0, hi0, hz0, hz1, hz2⟩ := info_parts info_u8
  have q := fun (w : World) (a : Option Addr) (n c n' c' : Nat) => Lib.run_eql_slice_nil (P := Try.prog) w _ _ a n c n' c' Try.underlying30
  rcases A with _ | ad
  · have hc := h.nil rfl
    have hn0 : n = 0 := by have := h.cap; omega
    subst hc hn0
    have hl : l = [] := List.eq_nil_of_length_eq_zero h.len
    subst hl
    clear h hn
    go_enter Try.func58, Try.ntmps58
    go_wp2
    go_ret
    exact ⟨_, rfl, World.ownsRow_nil _ _ _ _, Below.refl _ _⟩
  · have hr := h.reads
    clear h
    go_enter Try.func58, Try.ntmps58
    go_wp2_with (first | (at_builtin; refine wpList_append_any _ rfl (.tmp 5) (.tmp 6) _ rfl w.heap.size 5 i0 _ 1 1 Try.underlying30 hi0 hz0 hz1 hz2 rfl (by omega) _ 0 [] rfl (World.ownsRow_made w #[] 0 (Nat.le_refl _) (by simp [maxLen]) rfl) B (some ad) n c _ rfl (hr.alloc' _) (bv_one l) (by simp only [maxLen]; omega) (by omega) (by simp) ?_))
    intro v w1 hown hg hat
    go_wp2
    go_ret
    exact ⟨v, rfl, by simpa using hown, ((Below.refl _ _).alloc (Nat.le_refl _) _).grown hg (by simp) (fun k hk => by simp [Value.ownBlock] at hk; omega)⟩

/-- The page v reads as l, in a row of bytes whose block is ok. -/
def PgAt (w : World) (ok : Nat → Prop) (v : Value) (l : List UInt8) : Prop :=
  ∃ (g off c : Nat) (C : Array Value) (fr : Nat × Nat), v = .slice (some ⟨g, off, none⟩) l.length c ∧ l.length ≤ c ∧ ok g ∧ w.heap[g]? = some (.cells C 5 fr) ∧ ∀ i b, l[i]? = some b → C[off + i]? = some (.int .u8 (b.toNat : Int))
theorem PgAt.keep {w w' : World} {ok ok' : Nat → Prop} {v : Value} {l : List UInt8} (h : PgAt w ok v l) (hk : ∀ (g : Nat) (C : Array Value) (fr : Nat × Nat), ok g → w.heap[g]? = some (.cells C 5 fr) → w'.heap[g]? = w.heap[g]? ∧ ok' g) : PgAt w' ok' v l := by
  obtain ⟨g, off, c, C, fr, h1, h2, h3, h4, h5⟩ := h
  exact ⟨g, off, c, C, fr, h1, h2, (hk g C fr h3 h4).2, (hk g C fr h3 h4).1.trans h4, h5⟩
theorem add_plain (g j i : Nat) : (⟨g, j, none⟩ : Addr).add i = ⟨g, j + i, none⟩ := by
  unfold Addr.add
  split
  · rename_i h
    subst h
    rfl
  · rfl
theorem PgAt.sl {w : World} {ok : Nat → Prop} {v : Value} {l : List UInt8} (h : PgAt w ok v l) : ∃ A c, v = .slice A l.length c ∧ Sl w w.heap.size A l.length c l := by
  obtain ⟨g, off, c, C, fr, rfl, h2, h3, h4, h5⟩ := h
  refine ⟨_, c, rfl, ⟨⟨by simp [bv_length], fun _ => ⟨_, rfl, blk_lt h4, fun j u hu => ?_⟩⟩, rfl, h2, fun h => by cases h⟩⟩
  simp only [bv, List.getElem?_map, Option.map_eq_some_iff] at hu
  obtain ⟨b, hb, rfl⟩ := hu
  rw [add_plain]
  exact (cell_of_row w g _ C _ fr h4).trans (h5 j b hb)
theorem PgAt.of_own {w : World} {base : Nat} {v : Value} {n : Nat} {l : List UInt8} {ok : Nat → Prop} (h : w.ownsRow base 5 1 v n (bv l)) (hn : 0 < n) (hok : ∀ k, base ≤ k → ok k) : PgAt w ok v l := by
  have hl : l.length = n := by have := h.1; simp [bv_length] at this; exact this
  subst hl
  rcases h.2 with ⟨_, h0⟩ | ⟨g, cap, cur, hv, hg, hh, hnc, hcm, hsz, htk⟩
  · omega
  · refine ⟨g, 0, cap, cur, (0, 0), hv, hnc, hok g hg, hh, fun i b hb => ?_⟩
    have hi := (List.getElem?_eq_some_iff.1 hb).1
    have e : (bv l)[i]? = some (.int .u8 (b.toNat : Int)) := by simp [bv, hb]
    rw [← htk, Nat.mul_one, List.getElem?_take, if_pos hi] at e
    rw [Nat.zero_add]
    simpa using e
theorem PgAt.of_row {w : World} {g n : Nat} {l : List UInt8} {ok : Nat → Prop} (h : RowB w g l) (hn : l.length = n) (hok : ok g) : PgAt w ok (.slice (some ⟨g, 0, none⟩) n n) l := by
  subst hn
  exact ⟨g, 0, _, _, (0, 0), rfl, Nat.le_refl _, hok, h, fun i b hb => by simp [bv, hb]⟩
theorem PgAt.len {w : World} {ok : Nat → Prop} {v : Value} {l : List UInt8} (h : PgAt w ok v l) : ∃ A c, v = .slice (some A) l.length c ∧ l.length ≤ c := by
  obtain ⟨g, off, c, C, fr, h1, h2, _⟩ := h
  exact ⟨_, c, h1, h2⟩

/-- The block of a disk. -/
def DBlk (w : World) (p : Nat) (s l : Nat) (G L : Value) (fa : Int) (ca : Nat) (dn : Int) (Z : Value) : Prop :=
  w.heap[p]? = some (.cells #[.int .i64 (s : Int), .int .i64 (l : Int), G, L, .int .i64 fa, .int .i64 (ca : Int), .int .u32 dn, .int .i32 0, .int .u32 0, Z] 123 (0, 0))
section
variable {w w' : World} {p s l ca : Nat} {G L Z : Value} {fa dn : Int}
theorem DBlk.cells (h : DBlk w p s l G L fa ca dn Z) : w.cell? ⟨p, 0, none⟩ = some (.int .i64 (s : Int)) ∧ w.cell? ⟨p, 1, none⟩ = some (.int .i64 (l : Int)) ∧ w.cell? ⟨p, 2, none⟩ = some G ∧ w.cell? ⟨p, 3, none⟩ = some L ∧
    w.cell? ⟨p, 4, none⟩ = some (.int .i64 fa) ∧ w.cell? ⟨p, 5, none⟩ = some (.int .i64 (ca : Int)) ∧ w.cell? ⟨p, 6, none⟩ = some (.int .u32 dn) ∧ w.cell? ⟨p, 7, none⟩ = some (.int .i32 0) ∧ w.cell? ⟨p, 8, none⟩ = some (.int .u32 0) ∧ w.cell? ⟨p, 9, none⟩ = some Z :=
  ⟨blk_cell h 0, blk_cell h 1, blk_cell h 2, blk_cell h 3, blk_cell h 4, blk_cell h 5, blk_cell h 6, blk_cell h 7, blk_cell h 8, blk_cell h 9⟩
theorem DBlk.free (h : DBlk w p s l G L fa ca dn Z) (i : Nat) : w.frozen? ⟨p, i, none⟩ = false := blk_frozen h i
theorem DBlk.set2 (h : DBlk w p s l G L fa ca dn Z) (G' : Value) : DBlk (w.setCell ⟨p, 2, none⟩ G') p s l G' L fa ca dn Z := by unfold DBlk; simpa using blk_set h 2 G'
theorem DBlk.set3 (h : DBlk w p s l G L fa ca dn Z) (L' : Value) : DBlk (w.setCell ⟨p, 3, none⟩ L') p s l G L' fa ca dn Z := by unfold DBlk; simpa using blk_set h 3 L'
theorem DBlk.set4 (h : DBlk w p s l G L fa ca dn Z) (fa' : Int) : DBlk (w.setCell ⟨p, 4, none⟩ (.int .i64 fa')) p s l G L fa' ca dn Z := by unfold DBlk; simpa using blk_set h 4 (.int .i64 fa')
theorem DBlk.set5 (h : DBlk w p s l G L fa ca dn Z) (ca' : Nat) : DBlk (w.setCell ⟨p, 5, none⟩ (.int .i64 (ca' : Int))) p s l G L fa ca' dn Z := by unfold DBlk; simpa using blk_set h 5 (.int .i64 (ca' : Int))
theorem DBlk.lt (h : DBlk w p s l G L fa ca dn Z) : p < w.heap.size := blk_lt h
end

/-- Rows of pages. -/
def GRow (w : World) (base : Nat) (ok : Nat → Prop) (G : Value) (good : List (List UInt8)) : Prop :=
  ∃ (A : Option Addr) (c : Nat) (cs : List Value), G = .slice A good.length c ∧ w.ownsRow base 30 1 G good.length cs ∧ (∀ k, G.ownBlock = some k → ok k) ∧ ∀ (i : Nat) (l : List UInt8), good[i]? = some l → ∃ v : Value, cs[i]? = some v ∧ PgAt w ok v l
/-- Rows of writes. -/
def LRow (w : World) (base : Nat) (ok : Nat → Prop) (L : Value) (loose : List (Nat × List UInt8)) : Prop :=
  ∃ (A : Option Addr) (c : Nat) (cs : List Value), L = .slice A loose.length c ∧ w.ownsRow base 129 2 L loose.length cs ∧ (∀ k, L.ownBlock = some k → ok k) ∧ ∀ (i : Nat) (x : Nat × List UInt8), loose[i]? = some x → ∃ v : Value, cs[i * 2]? = some (.int .i64 (x.1 : Int)) ∧ cs[i * 2 + 1]? = some v ∧ PgAt w ok v x.2
/-- A disk in memory. -/
structure DAt (w : World) (base : Nat) (ok : Nat → Prop) (p : Nat) (D : Dk) (G L : Value) (dn : Int) (Z : Value) : Prop where
  blk : DBlk w p D.size D.limit G L D.fails D.calls dn Z
  bp : base ≤ p
  okp : ok p
  good : GRow w base ok G D.good
  loose : LRow w base ok L D.loose
  zer : dn = 0 ∨ (dn = 1 ∧ PgAt w ok Z (zeros D.size))
  wf : D.OK
  cb : D.calls ≤ 1000000000
def DiskAt (w : World) (base : Nat) (ok : Nat → Prop) (p : Nat) (D : Dk) : Prop := ∃ G L dn Z, DAt w base ok p D G L dn Z
/-- Blocks that aren't ok stay. -/
def Fr (ok : Nat → Prop) (w w' : World) : Prop := w'.os = w.os ∧ w'.tape = w.tape ∧ w'.output = w.output ∧ w.heap.size ≤ w'.heap.size ∧ ∀ k, k < w.heap.size → ¬ ok k → w'.heap[k]? = w.heap[k]?
theorem Fr.refl (ok : Nat → Prop) (w : World) : Fr ok w w := ⟨rfl, rfl, rfl, Nat.le_refl _, fun _ _ _ => rfl⟩
theorem Fr.trans {ok : Nat → Prop} {a b c : World} (h : Fr ok a b) (k : Fr ok b c) : Fr ok a c :=
  ⟨k.1.trans h.1, k.2.1.trans h.2.1, k.2.2.1.trans h.2.2.1, Nat.le_trans h.2.2.2.1 k.2.2.2.1, fun i hi ho => (k.2.2.2.2 i (Nat.lt_of_lt_of_le hi h.2.2.2.1) ho).trans (h.2.2.2.2 i hi ho)⟩
theorem Fr.of_below {ok : Nat → Prop} {w w' : World} (h : Below w.heap.size w w') : Fr ok w w' := ⟨h.os, h.tape, h.output, h.size, fun i hi _ => h.block i hi⟩
theorem Fr.of_at {ok : Nat → Prop} {g : Nat} {w w' : World} (h : At g w w') (hg : ok g) : Fr ok w w' := ⟨h.os, h.tape, h.output, h.size, fun i hi ho => h.block i hi (fun e => ho (by injection e with e; rw [e]; exact hg))⟩
theorem Fr.of_grown {ok : Nat → Prop} {row : Option Nat} {w w' : World} (h : w.grownBy w' row) (hg : ∀ k, row = some k → ok k) : Fr ok w w' := ⟨h.os, h.tape, h.output, h.size, fun i hi ho => h.block i hi (fun e => ho (hg i e.symm))⟩
theorem Fr.size {ok : Nat → Prop} {w w' : World} (h : Fr ok w w') : w.heap.size ≤ w'.heap.size := h.2.2.2.1
theorem Fr.below {ok : Nat → Prop} {w w' : World} {B : Nat} (h : Fr ok w w') (hB : B ≤ w.heap.size) (ho : ∀ k, k < B → ¬ ok k) : Below B w w' :=
  ⟨h.1, h.2.1, h.2.2.1, h.size, fun k hk => h.2.2.2.2 k (by omega) (ho k hk)⟩
theorem Fr.set {ok : Nat → Prop} {w w' : World} (h : Fr ok w w') {p : Nat} (hp : ok p) (i : Nat) (u : Value) : Fr ok w (w'.setCell ⟨p, i, none⟩ u) := by
  refine ⟨h.1, h.2.1, h.2.2.1, by simpa [World.setCell] using h.size, fun k hk ho => ?_⟩
  rw [Below.heap_setCell _ _ _ _ (fun e => ho (by rw [e]; exact hp))]
  exact h.2.2.2.2 k hk ho
theorem Fr.drew {ok : Nat → Prop} {w w' : World} (h : Fr ok w w') : Fr ok w w'.drew := h

section
variable {w w' : World} {base : Nat} {ok : Nat → Prop} {p : Nat}
theorem own_at_ {e : TypeId} {size n : Nat} {v : Value} {xs : List Value} (h : w.ownsRow base e size v n xs) (hk : ∀ (g : Nat) (C : Array Value), v.ownBlock = some g → w.heap[g]? = some (.cells C e (0, 0)) → w'.heap[g]? = w.heap[g]?) : w'.ownsRow base e size v n xs := by
  obtain ⟨h1, h2⟩ := h
  refine ⟨h1, ?_⟩
  rcases h2 with h2 | ⟨g, cap, cur, hv, hg, hh, r⟩
  · exact Or.inl h2
  · exact Or.inr ⟨g, cap, cur, hv, hg, (hk g _ (by rw [hv]; rfl) hh).trans hh, r⟩
theorem GRow.keep {G : Value} {good : List (List UInt8)} (h : GRow w base ok G good) (h1 : ∀ (g : Nat) (C : Array Value), w.heap[g]? = some (.cells C 30 (0, 0)) → w'.heap[g]? = w.heap[g]?) (h2 : ∀ (g : Nat) (C : Array Value) (fr : Nat × Nat), w.heap[g]? = some (.cells C 5 fr) → w'.heap[g]? = w.heap[g]?) : GRow w' base ok G good := by
  obtain ⟨A, c, cs, e, ho, hb, hr⟩ := h
  exact ⟨A, c, cs, e, own_at_ ho fun g C _ hg => h1 g C hg, hb, fun i l hi => by
    obtain ⟨v, hv, hp⟩ := hr i l hi
    exact ⟨v, hv, hp.keep fun g C fr ho hg => ⟨h2 g C fr hg, ho⟩⟩⟩
theorem LRow.keep {L : Value} {loose : List (Nat × List UInt8)} (h : LRow w base ok L loose) (h1 : ∀ (g : Nat) (C : Array Value), w.heap[g]? = some (.cells C 129 (0, 0)) → w'.heap[g]? = w.heap[g]?) (h2 : ∀ (g : Nat) (C : Array Value) (fr : Nat × Nat), w.heap[g]? = some (.cells C 5 fr) → w'.heap[g]? = w.heap[g]?) : LRow w' base ok L loose := by
  obtain ⟨A, c, cs, e, ho, hb, hr⟩ := h
  exact ⟨A, c, cs, e, own_at_ ho fun g C _ hg => h1 g C hg, hb, fun i l hi => by
    obtain ⟨v, hv0, hv, hp⟩ := hr i l hi
    exact ⟨v, hv0, hv, hp.keep fun g C fr ho hg => ⟨h2 g C fr hg, ho⟩⟩⟩
/-- Only block p is another one. -/
theorem DAt.at_ {D D' : Dk} {G L Z : Value} {dn : Int} (h : DAt w base ok p D G L dn Z) (hA : At p w w') (hb : DBlk w' p D'.size D'.limit G L D'.fails D'.calls dn Z) (hs : D'.size = D.size) (hg : D'.good = D.good) (hl : D'.loose = D.loose) (hw : D'.OK) (hc : D'.calls ≤ 1000000000) : DAt w' base ok p D' G L dn Z := by
  have hne : ∀ (g : Nat) (C : Array Value) (t : TypeId) (fr : Nat × Nat), t ≠ 123 → w.heap[g]? = some (.cells C t fr) → w'.heap[g]? = w.heap[g]? := fun g C t fr ht hg => hA.block g (blk_lt hg) (fun e => by
    injection e with e
    subst e
    rw [h.blk] at hg
    injection hg with hg
    injection hg with _ hg
    exact ht hg.symm)
  refine ⟨hb, h.bp, h.okp, ?_, ?_, ?_, hw, hc⟩
  · rw [hg]
    exact h.good.keep (fun g C hc => hne g C 30 (0, 0) (by decide) hc) (fun g C fr hc => hne g C 5 fr (by decide) hc)
  · rw [hl]
    exact h.loose.keep (fun g C hc => hne g C 129 (0, 0) (by decide) hc) (fun g C fr hc => hne g C 5 fr (by decide) hc)
  · rw [hs]
    rcases h.zer with h0 | ⟨h1, h2⟩
    · exact .inl h0
    · exact .inr ⟨h1, h2.keep fun g C fr ho hg => ⟨hne g C 5 fr (by decide) hg, ho⟩⟩
/-- All that is older stays. -/
theorem DAt.below {D : Dk} {G L Z : Value} {dn : Int} (h : DAt w base ok p D G L dn Z) (hb : Below w.heap.size w w') : DAt w' base ok p D G L dn Z :=
  ⟨(hb.block p h.blk.lt).trans h.blk, h.bp, h.okp, h.good.keep (fun g C hc => hb.block g (blk_lt hc)) (fun g C fr hc => hb.block g (blk_lt hc)),
    h.loose.keep (fun g C hc => hb.block g (blk_lt hc)) (fun g C fr hc => hb.block g (blk_lt hc)), by
    rcases h.zer with h0 | ⟨h1, h2⟩
    · exact .inl h0
    · exact .inr ⟨h1, h2.keep fun g C fr ho hg => ⟨hb.block g (blk_lt hg), ho⟩⟩, h.wf, h.cb⟩
theorem DiskAt.below {D : Dk} (h : DiskAt w base ok p D) (hb : Below w.heap.size w w') : DiskAt w' base ok p D := by
  obtain ⟨G, L, dn, Z, h⟩ := h
  exact ⟨G, L, dn, Z, h.below hb⟩
/-- Blocks that are not ok may change; blocks to come may be taken out. -/
theorem GRow.other {ok' : Nat → Prop} {G : Value} {good : List (List UInt8)} (h : GRow w base ok G good) (hk : ∀ k, k < w.heap.size → ok k → w'.heap[k]? = w.heap[k]? ∧ ok' k) : GRow w' base ok' G good := by
  obtain ⟨A, c, cs, e, ho, hb, hr⟩ := h
  have hlt : ∀ k, G.ownBlock = some k → k < w.heap.size := fun k hk => (ho.lt k hk).2
  exact ⟨A, c, cs, e, own_at_ ho fun g C hv hg => (hk g (blk_lt hg) (hb g hv)).1, fun k hv => (hk k (hlt k hv) (hb k hv)).2, fun i l hi => by
    obtain ⟨v, hv, hp⟩ := hr i l hi
    exact ⟨v, hv, hp.keep fun g C fr ho hg => hk g (blk_lt hg) ho⟩⟩
theorem LRow.other {ok' : Nat → Prop} {L : Value} {loose : List (Nat × List UInt8)} (h : LRow w base ok L loose) (hk : ∀ k, k < w.heap.size → ok k → w'.heap[k]? = w.heap[k]? ∧ ok' k) : LRow w' base ok' L loose := by
  obtain ⟨A, c, cs, e, ho, hb, hr⟩ := h
  have hlt : ∀ k, L.ownBlock = some k → k < w.heap.size := fun k hk => (ho.lt k hk).2
  exact ⟨A, c, cs, e, own_at_ ho fun g C hv hg => (hk g (blk_lt hg) (hb g hv)).1, fun k hv => (hk k (hlt k hv) (hb k hv)).2, fun i l hi => by
    obtain ⟨v, hv0, hv, hp⟩ := hr i l hi
    exact ⟨v, hv0, hv, hp.keep fun g C fr ho hg => hk g (blk_lt hg) ho⟩⟩
theorem DiskAt.other {ok' : Nat → Prop} {D : Dk} (h : DiskAt w base ok p D) (hk : ∀ k, k < w.heap.size → ok k → w'.heap[k]? = w.heap[k]? ∧ ok' k) : DiskAt w' base ok' p D := by
  obtain ⟨G, L, dn, Z, h⟩ := h
  refine ⟨G, L, dn, Z, (hk p h.blk.lt h.okp).1.trans h.blk, h.bp, (hk p h.blk.lt h.okp).2, h.good.other hk, h.loose.other hk, ?_, h.wf, h.cb⟩
  rcases h.zer with h0 | ⟨h1, h2⟩
  · exact .inl h0
  · exact .inr ⟨h1, h2.keep fun g C fr ho hg => hk g (blk_lt hg) ho⟩
end

/-! what only reads -/
section
variable {w : World} {base : Nat} {ok : Nat → Prop} {p : Nat} {D : Dk}
theorem dsize_any (h : DiskAt w base ok p D) : Calls Try.prog 17 #[.pointer (some ⟨p, 0, none⟩)] w fun e w' => e = .returned (.int .i64 (D.size : Int)) ∧ w = w' := by
  obtain ⟨G, L, dn, Z, h⟩ := h
  obtain ⟨c0, _⟩ := h.blk.cells
  go_enter Try.func17, Try.ntmps17
  go_wp2
  go_ret
  exact ⟨rfl, rfl⟩
theorem dlimit_any (h : DiskAt w base ok p D) : Calls Try.prog 18 #[.pointer (some ⟨p, 0, none⟩)] w fun e w' => e = .returned (.int .i64 (D.limit : Int)) ∧ w = w' := by
  obtain ⟨G, L, dn, Z, h⟩ := h
  obtain ⟨_, c1, _⟩ := h.blk.cells
  go_enter Try.func18, Try.ntmps18
  go_wp2
  go_ret
  exact ⟨rfl, rfl⟩
theorem dlen_any (h : DiskAt w base ok p D) : Calls Try.prog 19 #[.pointer (some ⟨p, 0, none⟩)] w fun e w' => e = .returned (.int .i64 (D.good.length : Int)) ∧ w = w' := by
  obtain ⟨G, L, dn, Z, h⟩ := h
  obtain ⟨A, c, cs, rfl, _⟩ := h.good
  obtain ⟨_, _, c2, _⟩ := h.blk.cells
  go_enter Try.func19, Try.ntmps19
  go_wp2
  go_ret
  exact ⟨rfl, rfl⟩
theorem dloose_any (h : DiskAt w base ok p D) : Calls Try.prog 26 #[.pointer (some ⟨p, 0, none⟩)] w fun e w' => e = .returned (.int .i64 (D.loose.length : Int)) ∧ w = w' := by
  obtain ⟨G, L, dn, Z, h⟩ := h
  obtain ⟨A, c, cs, rfl, _⟩ := h.loose
  obtain ⟨_, _, _, c3, _⟩ := h.blk.cells
  go_enter Try.func26, Try.ntmps26
  go_wp2
  go_ret
  exact ⟨rfl, rfl⟩
theorem dcalls_any (h : DiskAt w base ok p D) : Calls Try.prog 20 #[.pointer (some ⟨p, 0, none⟩)] w fun e w' => e = .returned (.int .i64 (D.calls : Int)) ∧ w = w' := by
  obtain ⟨G, L, dn, Z, h⟩ := h
  obtain ⟨_, _, _, _, _, c5, _⟩ := h.blk.cells
  have hl := run_call_load (P := Try.prog) Try.func75 (by kernel_rfl) (by kernel_rfl) (by kernel_rfl) .i64 (by kernel_rfl) c5
  go_enter Try.func20, Try.ntmps20
  go_wp2_with (first | go_in)
  go_ret
  exact ⟨rfl, rfl⟩
/-- there -/
theorem dthere_any (h : DiskAt w base ok p D) (I : Int) : Calls Try.prog 57 #[.pointer (some ⟨p, 0, none⟩), .int .i64 I] w fun e w' => e = .returned (.bool (decide (0 ≤ I ∧ I < (D.good.length : Int)))) ∧ w = w' := by
  have hlen := dlen_any h
  obtain ⟨N, hN⟩ : ∃ N, D.good.length = N := ⟨_, rfl⟩
  rw [hN] at hlen ⊢
  by_cases h1 : 0 ≤ I
  · have d1 : decide (0 ≤ I) = true := decide_eq_true h1
    go_enter Try.func57, Try.ntmps57
    go_wp2_with (first | (go_at_call 19; refine hlen.mono ?_; rintro e w' ⟨rfl, rfl⟩))
    go_ret
    exact ⟨by simp [h1], rfl⟩
  · have d1 : decide (0 ≤ I) = false := decide_eq_false h1
    go_enter Try.func57, Try.ntmps57
    go_wp2_with (first | (go_at_call 19; refine hlen.mono ?_; rintro e w' ⟨rfl, rfl⟩))
    go_ret
    exact ⟨by simp [h1], rfl⟩

set_option maxRecDepth 100000 in
/-- count -/
theorem dcount_any {G L Z : Value} {dn : Int} (h : DAt w base ok p D G L dn Z) (hc : D.calls < 1000000000) : Calls Try.prog 54 #[.pointer (some ⟨p, 0, none⟩)] w fun e w' => e = .returned (.int .i64 D.err) ∧ DAt w' base ok p D.count G L dn Z ∧ At p w w' := by
  have hb := h.blk
  have hwf := h.wf
  obtain ⟨_, _, _, _, c4, c5, _⟩ := hb.cells
  have z4 := hb.free 4
  have z5 := hb.free 5
  have hadd := run_call_add (P := Try.prog) Try.func81 (by kernel_rfl) (by kernel_rfl) (by kernel_rfl) .i64 (by kernel_rfl) (y := 1) (s := ((D.calls + 1 : Nat) : Int)) c5 z5 (by
    have : IntKind.i64.wrap ((D.calls : Int) + 1) = ((D.calls + 1 : Nat) : Int) := by rw [IntWalk.i64_in _ (by omega)]; rfl
    simp [go_sem]; exact this)
  have hb5 := hb.set5 (D.calls + 1)
  have hfl := hwf.f1
  have hfu := hwf.f2
  obtain ⟨fa, hfa⟩ : ∃ fa, D.fails = fa := ⟨_, rfl⟩
  have HB : ∀ (fa' : Int) (w' : World), (if D.fails = -1 then -1 else D.fails - 1) = fa' → DBlk w' p D.size D.limit G L fa' (D.calls + 1) dn Z → DBlk w' p D.count.size D.count.limit G L D.count.fails D.count.calls dn Z := fun fa' w' e hh => by
    show DBlk w' p D.size D.limit G L (if D.fails = -1 then -1 else D.fails - 1) (D.calls + 1) dn Z
    rw [e]
    exact hh
  have FIN : ∀ (fa' : Int) (w' : World), (if D.fails = -1 then -1 else D.fails - 1) = fa' → DBlk w' p D.size D.limit G L fa' (D.calls + 1) dn Z → At p w w' → DAt w' base ok p D.count G L dn Z := fun fa' w' e hh hA =>
    h.at_ hA (HB fa' w' e hh) rfl rfl rfl hwf.count (by show D.calls + 1 ≤ _; omega)
  have FH := Lib.hid FIN
  have HF := Lib.hid hfa
  have HH := Lib.hid h
  rw [hfa] at c4 hfl hfu hb5
  unfold Dk.err
  rw [hfa]
  clear h hb hwf HB FIN hfa
  by_cases h1 : fa = -1
  · subst h1
    go_enter Try.func54, Try.ntmps54
    go_wp2_with (first | go_in)
    go_ret
    exact ⟨rfl, FH.out (-1) _ (by rw [HF.out]; rfl) hb5 ((At.refl p w).setCell 5 _), (At.refl p w).setCell 5 _⟩
  · have e1 : (fa == -1) = false := by simp [h1]
    have hb4 := hb5.set4 (fa - 1)
    have hw1 : IntKind.i64.wrap (fa - 1) = fa - 1 := IntWalk.i64_in _ (by omega)
    have hF : (if D.fails = -1 then -1 else D.fails - 1) = fa - 1 := by rw [HF.out, if_neg h1]
    have HF1 := Lib.hid hF
    clear hF
    by_cases h0 : fa = 0
    · subst h0
      rw [show ((0 : Int) - 1) = -1 from rfl] at hb4
      clear hw1 h1
      go_enter Try.func54, Try.ntmps54
      go_wp2_with (first | go_in)
      go_ret
      exact ⟨rfl, FH.out (-1) _ (by rw [HF1.out]; rfl) hb4 (((At.refl p w).setCell 5 _).setCell 4 _), ((At.refl p w).setCell 5 _).setCell 4 _⟩
    · have e2 : (fa - 1 == -1) = false := by simp; omega
      rw [if_neg h0]
      go_enter Try.func54, Try.ntmps54
      go_wp2_with (first | go_in)
      go_ret
      exact ⟨rfl, FH.out (fa - 1) _ HF1.out hb4 (((At.refl p w).setCell 5 _).setCell 4 _), ((At.refl p w).setCell 5 _).setCell 4 _⟩
end

end Go.Proofs.Ythijobbhpbklmaa
