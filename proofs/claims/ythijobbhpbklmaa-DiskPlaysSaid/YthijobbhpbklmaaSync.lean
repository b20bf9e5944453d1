/- Layer 3: Sync. -/
import Derived.Test.YthijobbhpbklmaaRead
namespace Go.Proofs.Ythijobbhpbklmaa
open Go.RowKit
set_option linter.unusedVariables false
set_option linter.unusedSimpArgs false

theorem own_set1 {w : World} {base n : Nat} {e : TypeId} {v : Value} {xs : List Value} (h : w.ownsRow base e 1 v n xs) {j : Nat} (hj : j < n) (u : Value) :
    ∃ g c C, v = .slice (some ⟨g, 0, none⟩) n c ∧ w.heap[g]? = some (.cells C e (0, 0)) ∧ w.cell? ⟨g, j, none⟩ = xs[j]? ∧ w.frozen? ⟨g, j, none⟩ = false ∧ (w.setCell ⟨g, j, none⟩ u).ownsRow base e 1 v n (xs.set j u) := by
  obtain ⟨h1, h2⟩ := h
  rcases h2 with ⟨_, h0⟩ | ⟨g, cap, cur, hv, hg, hh, hnc, hcm, hsz, htk⟩
  · omega
  · refine ⟨g, cap, cur, hv, hh, ?_, blk_frozen hh j, ⟨by simpa using h1, .inr ⟨g, cap, cur.setIfInBounds j u, hv, hg, blk_set hh j u, hnc, hcm, by simpa using hsz, ?_⟩⟩⟩
    · rw [blk_cell hh, ← htk, List.getElem?_take, if_pos (by omega)]
      simp
    · rw [← htk, Array.toList_setIfInBounds, List.take_set]
/-- One page for good is another one. -/
theorem DAt.setgood {w : World} {base p : Nat} {ok : Nat → Prop} {D : Dk} {G L Z : Value} {dn : Int} (h : DAt w base ok p D G L dn Z) {i : Nat} (hi : i < D.good.length) {v : Value} {b : List UInt8} (hv : PgAt w ok v b) (hbl : b.length = D.size) :
    ∃ g c C, G = .slice (some ⟨g, 0, none⟩) D.good.length c ∧ g ≠ p ∧ w.heap[g]? = some (.cells C 30 (0, 0)) ∧ (∃ u, w.cell? ⟨g, i, none⟩ = some u) ∧ w.frozen? ⟨g, i, none⟩ = false ∧ DAt (w.setCell ⟨g, i, none⟩ v) base ok p { D with good := D.good.set i b } G L dn Z ∧ Fr ok w (w.setCell ⟨g, i, none⟩ v) := by
  obtain ⟨A, c, cs, e, ho, hb, hr⟩ := h.good
  obtain ⟨g, c', C, e', hg, hc, hf, ho'⟩ := own_set1 ho hi v
  have hok : ok g := hb g (by rw [e']; rfl)
  have hgp : g ≠ p := fun x => by
    have := h.blk
    unfold DBlk at this
    rw [← x, hg] at this
    injection this with this
    injection this with _ this
    exact absurd this (by decide)
  have hne : ∀ (k : Nat) (C : Array Value) (t : TypeId) (fr : Nat × Nat), t ≠ 30 → w.heap[k]? = some (.cells C t fr) → (w.setCell ⟨g, i, none⟩ v).heap[k]? = w.heap[k]? := fun k C t fr ht hk => Below.heap_setCell _ _ _ _ (fun x => by
    subst x
    rw [hg] at hk
    injection hk with hk
    injection hk with _ hk
    exact ht hk.symm)
  obtain ⟨l0, hl0⟩ : ∃ l, D.good[i]? = some l := ⟨_, List.getElem?_eq_getElem hi⟩
  obtain ⟨u0, hu0, _⟩ := hr i l0 hl0
  have hwf := h.wf
  refine ⟨g, c', C, e', hgp, hg, ⟨u0, by rw [hc]; exact hu0⟩, hf, ⟨(hne p _ _ _ (by decide) h.blk).trans h.blk, h.bp, h.okp, ⟨A, c, cs.set i v, by simpa using e, by simpa using ho', hb, fun j l hj => ?_⟩, h.loose.keep (fun k C hk => hne k C _ _ (by decide) hk) (fun k C fr hk => hne k C _ _ (by decide) hk), ?_, ⟨hwf.s1, hwf.s2, hwf.s3, hwf.l1, hwf.l2, by simpa using hwf.g1, fun r hr => ?_, by simpa using hwf.o1, hwf.f1, hwf.f2⟩, h.cb⟩, Fr.set (Fr.refl _ _) hok i v⟩
  · have hlc : cs.length = D.good.length := by have := ho.1; omega
    by_cases hij : i = j
    · subst hij
      have hj' : (D.good.set i b)[i]? = some l := hj
      rw [List.getElem?_set_self hi] at hj'
      injection hj' with hj'
      subst hj'
      exact ⟨v, List.getElem?_set_self (by omega), hv.keep fun k C fr ho hk => ⟨hne k C _ _ (by decide) hk, ho⟩⟩
    · have hj' : (D.good.set i b)[j]? = some l := hj
      rw [List.getElem?_set_ne hij] at hj'
      obtain ⟨u, hu, hp⟩ := hr j l hj'
      exact ⟨u, by rw [List.getElem?_set_ne hij]; exact hu, hp.keep fun k C fr ho hk => ⟨hne k C _ _ (by decide) hk, ho⟩⟩
  · rcases h.zer with h0 | ⟨h1, h2⟩
    · exact .inl h0
    · exact .inr ⟨h1, h2.keep fun k C fr ho hk => ⟨hne k C _ _ (by decide) hk, ho⟩⟩
  · rcases List.mem_or_eq_of_mem_set hr with hr | hr
    · exact hwf.g2 r hr
    · rw [hr]; exact hbl
/-- No write is loose any more. -/
theorem DAt.shut {w : World} {base p : Nat} {ok : Nat → Prop} {D : Dk} {G L Z : Value} {dn : Int} (h : DAt w base ok p D G L dn Z) : DAt (w.setCell ⟨p, 3, none⟩ (.slice none 0 0)) base ok p { D with loose := [] } G (.slice none 0 0) dn Z :=
  h.reloose rfl (fun _ _ _ _ => rfl) (fun _ _ _ => rfl) ⟨none, 0, [], rfl, World.ownsRow_nil _ _ _ _, by intro k hk; simp [Value.ownBlock] at hk, by intro i l hi; simp at hi⟩ ⟨h.wf.s1, h.wf.s2, h.wf.s3, h.wf.l1, h.wf.l2, h.wf.g1, h.wf.g2, (by intro x hx; cases hx), h.wf.f1, h.wf.f2⟩
/-- So many writes are laid. -/
def laidTo (D : Dk) (k : Nat) : Dk := { D with good := laid D.good (D.loose.take k) }
theorem laidTo_zero (D : Dk) : laidTo D 0 = D := rfl
theorem laidTo_succ (D : Dk) {k : Nat} {x : Nat × List UInt8} (h : D.loose[k]? = some x) : ({ laidTo D k with good := (laidTo D k).good.set x.1 x.2 } : Dk) = laidTo D (k + 1) := by
  unfold laidTo
  rw [take_succ_some h, laid_snoc]
def SyncP (w : World) (base : Nat) (ok : Nat → Prop) (p : Nat) (D : Dk) (e : Ending) (w' : World) : Prop :=
  (D.fails = 0 ∧ e = .returned (.int .i64 20) ∧ DiskAt w' base ok p D.count ∧ Fr ok w w') ∨ (D.fails ≠ 0 ∧ e = .returned (.int .i64 0) ∧ DiskAt w' base ok p D.count.synced ∧ Fr ok w w')

set_option maxRecDepth 100000 in
set_option maxHeartbeats 4000000 in
theorem dsync_any {w : World} {base : Nat} {ok : Nat → Prop} {p : Nat} {D : Dk} (h : DiskAt w base ok p D) (hbase : base ≤ w.heap.size) (hc : D.calls < 1000000000) (hlo : D.loose.length ≤ 1000000000) :
    Calls Try.prog 23 #[.pointer (some ⟨p, 0, none⟩)] w (SyncP w base ok p D) := by
  obtain ⟨G, L, dn, Z, h⟩ := h
  have hcnt := dcount_any h hc
  obtain ⟨E, hE⟩ : ∃ E, D.err = E := ⟨_, rfl⟩
  rw [hE] at hcnt
  have HE := Lib.hid hE
  have hokp := h.okp
  have hl2 : D.good.length ≤ 65536 := Nat.le_trans h.wf.g1 h.wf.l2
  have hwf := h.wf
  clear hE h
  by_cases t3 : D.fails = 0
  · have hE20 : E = 20 := by rw [← HE.out]; unfold Dk.err; rw [if_pos t3]
    subst hE20
    have HT3 := Lib.hid t3
    clear t3 hwf
    go_enter Try.func23, Try.ntmps23
    go_wp2_with (first | (go_at_call 54; refine hcnt.mono ?_; rintro e w1 ⟨rfl, hD1, hA1⟩))
    go_ret
    exact .inl ⟨HT3.out, rfl, ⟨_, _, _, _, hD1⟩, Fr.of_at hA1 hokp⟩
  · have hE0 : E = 0 := by rw [← HE.out]; unfold Dk.err; rw [if_neg t3]
    subst hE0
    have HT3 := Lib.hid t3
    have HWF := Lib.hid hwf
    clear t3 hwf
    go_enter Try.func23, Try.ntmps23
    go_wp2_with fail
    refine hcnt.mono ?_
    rintro e w1 ⟨rfl, hD1, hA1⟩
    have hF1 := Fr.of_at hA1 hokp
    have hz1 := hF1.size
    obtain ⟨Al, cl, csl, hL0, hoL, _, hrowL⟩ := hD1.loose
    obtain ⟨m, hm⟩ : ∃ m, D.count.loose.length = m := ⟨_, rfl⟩
    rw [hm] at hL0
    subst hL0
    have hmm : m ≤ 1000000000 := by rw [← hm]; exact hlo
    have HMM := Lib.hid hm
    obtain ⟨_, _, e2, e3, _⟩ := hD1.blk.cells
    have HD0 := Lib.hid (show DAt w1 base ok p (laidTo D.count 0) G (.slice Al m cl) dn Z from hD1)
    clear hcnt hD1 hoL hrowL hm hlo
    go_wp2_with fail
    clear e2 e3
    go_loopw [18] (fun i wr => ∃ k : Nat, k ≤ m ∧ i = .int .i64 (k : Int) ∧ DAt wr base ok p (laidTo D.count k) G (.slice Al m cl) dn Z ∧ Fr ok w wr) (fun i _ => m - (intOf i).toNat)
    case atStart => exact ⟨0, Nat.zero_le _, rfl, HD0.out, hF1⟩
    case round =>
      obtain ⟨k, hk, rfl, hDr, hFr⟩ := hrel
      have hbs := hFr.size
      by_cases hlt : k < m
      · obtain ⟨Al', cl', csl, hL1, hoL, _, hrowL⟩ := hDr.loose
        rw [show (laidTo D.count k).loose.length = m from HMM.out] at hoL
        have hR := Reads.of_own hoL
        obtain ⟨x, hx⟩ : ∃ x, D.count.loose[k]? = some x := ⟨_, List.getElem?_eq_getElem (by rw [HMM.out]; exact hlt)⟩
        obtain ⟨u, hu0, hu, hpu⟩ := hrowL k x hx
        obtain ⟨adl, rfl, hb, hcl⟩ := hR.2 (by omega)
        have ca := hcl _ _ hu0
        have cb := hcl _ _ hu
        rw [← add_of_add] at cb
        obtain ⟨Au, cu, hue, _⟩ := hpu.len
        subst hue
        have cb : wr.cell? ⟨(adl.add (k * 2)).block, (adl.add (k * 2)).off + 1, none⟩ = some (.slice (some Au) x.2.length cu) := cb
        have hb8 : Below wr.heap.size wr (wr.alloc (.cells #[.int .i64 (x.1 : Int), .slice (some Au) x.2.length cu] 129)).drew := ((Below.refl _ _).alloc (Nat.le_refl _) _).drew
        have hD8 := hDr.below hb8
        have hpu8 := hpu.keep (w' := (wr.alloc (.cells #[.int .i64 (x.1 : Int), .slice (some Au) x.2.length cu] 129)).drew) (ok' := ok) fun g C fr ho hg => ⟨hb8.block g (blk_lt hg), ho⟩
        have hxo := HWF.out.o1 x (List.mem_of_getElem? hx)
        obtain ⟨n, hn⟩ : ∃ n, D.good.length = n := ⟨_, rfl⟩
        rw [hn] at hxo hl2
        have hgl : (laidTo D.count k).good.length = n := (laid_length _ _).trans hn
        obtain ⟨g, cg, C, hGe, hgp, hgC, ⟨u0, c0⟩, z0, hD9, hF9⟩ := hD8.setgood (i := x.1) (by rw [hgl]; exact hxo.1) hpu8 hxo.2
        rw [laidTo_succ D.count hx] at hD9
        rw [hgl] at hGe
        subst hGe
        have HN := Lib.hid hn
        have HD9 := Lib.hid hD9
        have HF9 := Lib.hid ((hFr.trans (Fr.of_below hb8)).trans hF9)
        obtain ⟨_, _, e2, _⟩ := hD8.blk.cells
        have e2r : (wr.alloc (.cells #[.int .i64 (x.1 : Int), .slice (some Au) x.2.length cu] 129)).cell? ⟨p, 2, none⟩ = some (.slice (some ⟨g, 0, none⟩) n cg) := e2
        have c0r : (wr.alloc (.cells #[.int .i64 (x.1 : Int), .slice (some Au) x.2.length cu] 129)).cell? ⟨g, x.1, none⟩ = some u0 := c0
        have z0r : (wr.alloc (.cells #[.int .i64 (x.1 : Int), .slice (some Au) x.2.length cu] 129)).frozen? ⟨g, x.1, none⟩ = false := z0
        have hx1 : x.1 < n := hxo.1
        have hgz : g ≠ wr.heap.size := fun e => by
          rw [e, show (wr.alloc (.cells #[.int .i64 (x.1 : Int), .slice (some Au) x.2.length cu] 129)).drew.heap[wr.heap.size]? = _ from heap_alloc_new wr _] at hgC
          injection hgC with hgC
          injection hgC with _ hgC
          exact absurd hgC (by decide)
        obtain ⟨X, xb⟩ := x
        have hx1 : X < n := hx1
        clear hD9 hF9 hD8 hpu8 hxo hrowL hoL hR hcl hpu hn hx hDr hb8 hgl hu hu0 hL1 e2 c0 z0 hgC
        go_wp2_with fail
        refine wp_region_held_drew (S := (fun w' => w'.cell? ⟨p, 2, none⟩ = some (.slice (some ⟨g, 0, none⟩) n cg) ∧ w'.cell? ⟨wr.heap.size, 0, none⟩ = some (.int .i64 (X : Int)) ∧ w'.cell? ⟨wr.heap.size, 1, none⟩ = some (.slice (some Au) xb.length cu))) (by kernel_rfl) ?_ (fun hHeld => ?_)
        · exact ⟨by go_simp, by go_simp, by go_simp⟩
        refine takeP (i := 0) rfl (by kernel_rfl) (by kernel_rfl) (by kernel_rfl) (fun _ _ _ h => h) (by rfl) (by assumption) (v := ?_) ?_ ?_
        rotate_left
        · intro w' hSw
          try dsimp only at hSw
          go_simp
          try with_reducible rfl
        try simp only [Act.put, List.setIfInBounds_toArray, List.set_cons_zero, List.set_cons_succ]
        refine takeP (i := 1) rfl (by kernel_rfl) (by kernel_rfl) (by kernel_rfl) (fun _ _ _ h => h) (by rfl) (by assumption) (v := ?_) ?_ ?_
        rotate_left
        · intro w' hSw
          try dsimp only at hSw
          go_simp
          try with_reducible rfl
        try simp only [Act.put, List.setIfInBounds_toArray, List.set_cons_zero, List.set_cons_succ]
        refine takeP (i := 2) rfl (by kernel_rfl) (by kernel_rfl) (by kernel_rfl) (fun _ _ _ h => h) (by rfl) (by assumption) (v := ?_) ?_ ?_
        rotate_left
        · intro w' hSw
          try dsimp only at hSw
          go_simp
          try with_reducible rfl
        try simp only [Act.put, List.setIfInBounds_toArray, List.set_cons_zero, List.set_cons_succ]
        refine takeP (i := 3) rfl (by kernel_rfl) (by kernel_rfl) (by kernel_rfl) (fun _ _ _ h => h) (by rfl) (by assumption) (v := ?_) ?_ ?_
        rotate_left
        · intro w' hSw
          try dsimp only at hSw
          go_simp
          try with_reducible rfl
        try simp only [Act.put, List.setIfInBounds_toArray, List.set_cons_zero, List.set_cons_succ]
        refine takeP (i := 4) rfl (by kernel_rfl) (by kernel_rfl) (by kernel_rfl) (fun _ _ _ h => h) (by rfl) (by assumption) (v := ?_) ?_ ?_
        rotate_left
        · intro w' hSw
          try dsimp only at hSw
          go_simp
          try with_reducible rfl
        try simp only [Act.put, List.setIfInBounds_toArray, List.set_cons_zero, List.set_cons_succ]
        refine takeP (i := 5) rfl (by kernel_rfl) (by kernel_rfl) (by kernel_rfl) (fun _ _ _ h => h) (by rfl) (by assumption) (v := ?_) ?_ ?_
        rotate_left
        · intro w' hSw
          try dsimp only at hSw
          go_simp
          try with_reducible rfl
        try simp only [Act.put, List.setIfInBounds_toArray, List.set_cons_zero, List.set_cons_succ]
        refine takeP (i := 6) rfl (by kernel_rfl) (by kernel_rfl) (by kernel_rfl) (fun _ _ _ h => h) (by rfl) (by assumption) (v := ?_) ?_ ?_
        rotate_left
        · intro w' hSw
          try dsimp only at hSw
          go_simp
          try with_reducible rfl
        try simp only [Act.put, List.setIfInBounds_toArray, List.set_cons_zero, List.set_cons_succ]
        refine takeP (i := 7) rfl (by kernel_rfl) (by kernel_rfl) (by kernel_rfl) (fun _ _ _ h => h) (by rfl) (by assumption) (v := ?_) ?_ ?_
        rotate_left
        · intro w' hSw
          try dsimp only at hSw
          go_simp
          try with_reducible rfl
        try simp only [Act.put, List.setIfInBounds_toArray, List.set_cons_zero, List.set_cons_succ]
        refine takeP (i := 8) rfl (by kernel_rfl) (by kernel_rfl) (by kernel_rfl) (fun _ _ _ h => h) (by rfl) (by assumption) (v := ?_) ?_ ?_
        rotate_left
        · intro w' hSw
          try dsimp only at hSw
          go_simp
          try with_reducible rfl
        try simp only [Act.put, List.setIfInBounds_toArray, List.set_cons_zero, List.set_cons_succ]
        refine carryP (i := 9) rfl (by kernel_rfl) (by rfl) (fun K hK => ?_)
        go_simp
        refine hK.out _ _ ?_ (fun hHeld => ?_)
        · exact ⟨by go_simp, by go_simp, by go_simp⟩
        clear hK K
        try simp only [Act.put, List.setIfInBounds_toArray, List.set_cons_zero, List.set_cons_succ]
        refine wpAnyH_done (by kernel_rfl) ?_ _
        go_wp2_with fail
        exact ⟨⟨k + 1, by omega, by go_num, HD9.out, HF9.out⟩, by simp [intOf]; omega⟩

      · obtain rfl : k = m := by omega
        have HS := Lib.hid (show ({ laidTo D.count k with loose := [] } : Dk) = D.count.synced from by
          unfold laidTo Dk.synced
          rw [List.take_of_length_le (by rw [HMM.out]; exact Nat.le_refl _)])
        have hD9 := hDr.shut
        rw [HS.out] at hD9
        have hF9 := hFr.set hDr.okp 3 (.slice none 0 0)
        have HD9 := Lib.hid hD9
        have HF9 := Lib.hid hF9
        obtain ⟨_, _, e2, e3, _⟩ := hDr.blk.cells
        have z3 := hDr.blk.free 3
        clear hD9 hF9 hDr
        go_wp2_with fail
        go_ret
        exact .inr ⟨HT3.out, rfl, ⟨_, _, _, _, HD9.out⟩, HF9.out⟩
end Go.Proofs.Ythijobbhpbklmaa
