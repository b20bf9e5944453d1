/- Layer 3: Write. -/
import Derived.Test.YthijobbhpbklmaaGrow
namespace Go.Proofs.Ythijobbhpbklmaa
open Go.RowKit
set_option linter.unusedVariables false
set_option linter.unusedSimpArgs false

theorem info_loose : (Try.prog.info? 129).map (fun i => (i.zero, i.size, i.bytes)) = some (some (.agg #[.int .i64 0, .slice none 0 0]), 2, 32) := by kernel_rfl
theorem Reads.two (w : World) (a b : Value) (t : TypeId) : Reads (w.alloc (.cells #[a, b] t)) (w.heap.size + 1) 2 (some ⟨w.heap.size, 0, none⟩) 1 [a, b] := by
  have hb : (w.alloc (.cells #[a, b] t)).heap[w.heap.size]? = some (.cells #[a, b] t (0, 0)) := heap_alloc_new w _
  refine ⟨rfl, fun _ => ⟨_, rfl, by simp, fun j u hu => ?_⟩⟩
  rw [Addr.add_lit, Nat.zero_add, blk_cell hb]
  simpa using hu
theorem Sl.same {w w' : World} {B : Nat} {A : Option Addr} {n c : Nat} {l : List UInt8} (h : Sl w B A n c l) (hk : ∀ ad, A = some ad → w'.heap[ad.block]? = w.heap[ad.block]?) : Sl w' B A n c l :=
  ⟨⟨h.reads.1, fun hn => by
    obtain ⟨ad, e, hb, hc⟩ := h.reads.2 hn
    exact ⟨ad, e, hb, fun j u hu => (World.cell?_of_block (by rw [block_of_add]; exact hk ad e)).trans (hc j u hu)⟩⟩, h.len, h.cap, h.nil⟩
/-- The writes are others. -/
theorem DAt.reloose {w w8 : World} {base p : Nat} {ok : Nat → Prop} {D : Dk} {G L L' Z : Value} {dn : Int} {loose' : List (Nat × List UInt8)} (h : DAt w base ok p D G L dn Z) (hp : w8.heap[p]? = w.heap[p]?)
    (hb : ∀ (g : Nat) (C : Array Value) (fr : Nat × Nat), w.heap[g]? = some (.cells C 5 fr) → w8.heap[g]? = w.heap[g]?) (hg : ∀ (g : Nat) (C : Array Value), w.heap[g]? = some (.cells C 30 (0, 0)) → w8.heap[g]? = w.heap[g]?)
    (hL : LRow w8 base ok L' loose') (hwf : ({ D with loose := loose' } : Dk).OK) : DAt (w8.setCell ⟨p, 3, none⟩ L') base ok p { D with loose := loose' } G L' dn Z := by
  have hpb : DBlk w8 p D.size D.limit G L D.fails D.calls dn Z := hp.trans h.blk
  have hne : ∀ (g : Nat) (C : Array Value) (t : TypeId) (fr : Nat × Nat), t ≠ 123 → w8.heap[g]? = some (.cells C t fr) → (w8.setCell ⟨p, 3, none⟩ L').heap[g]? = w8.heap[g]? := fun g C t fr ht hg => Below.heap_setCell _ _ _ _ (fun e => by
    subst e
    rw [hpb] at hg
    injection hg with hg
    injection hg with _ hg
    exact ht hg.symm)
  refine ⟨hpb.set3 L', h.bp, h.okp, ?_, hL.keep (fun g C hc => hne g C 129 (0, 0) (by decide) hc) (fun g C fr hc => hne g C 5 fr (by decide) hc), ?_, hwf, h.cb⟩
  · exact (h.good.keep (w' := w8) hg hb).keep (fun g C hc => hne g C 30 (0, 0) (by decide) hc) (fun g C fr hc => hne g C 5 fr (by decide) hc)
  · rcases h.zer with h0 | ⟨h1, h2⟩
    · exact .inl h0
    · exact .inr ⟨h1, h2.keep fun g C fr ho hg => ⟨(hne g C 5 fr (by decide) ((hb g C fr hg).trans hg)).trans (hb g C fr hg), ho⟩⟩
/-- One write more was appended. -/
theorem write_step {w5 w8 : World} {base p : Nat} {ok : Nat → Prop} {D : Dk} {G L Z v : Value} {dn : Int} {i : Nat} {b : List UInt8} (h : DAt w5 base ok p D G L dn Z) (hv : PgAt w5 ok v b) (hfr : ∀ k, w5.heap.size ≤ k → ok k) (hi : i < D.good.length) (hbl : b.length = D.size) {cs : List Value} {c0 : Nat} {A0 : Option Addr} (hL0 : L = .slice A0 D.loose.length c0)
    (ho : w5.ownsRow base 129 2 L D.loose.length cs) (hrow : ∀ (i : Nat) (x : Nat × List UInt8), D.loose[i]? = some x → ∃ v : Value, cs[i * 2]? = some (.int .i64 (x.1 : Int)) ∧ cs[i * 2 + 1]? = some v ∧ PgAt w5 ok v x.2) (hLok : ∀ k, L.ownBlock = some k → ok k) {v8 : Value} {T : TypeId}
    (hown8 : w8.ownsRow base 129 2 v8 (D.loose.length + 1) (cs ++ [.int .i64 (i : Int), v])) (hg8 : (w5.alloc (.cells #[.int .i64 (i : Int), v] T)).grownBy w8 L.ownBlock) (hat8 : v8.ownBlock = L.ownBlock ∨ v8.ownBlock = some (w5.alloc (.cells #[.int .i64 (i : Int), v] T)).heap.size) :
    w8.heap[p]? = w5.heap[p]? ∧ DAt (w8.setCell ⟨p, 3, none⟩ v8) base ok p (D.written i b) G v8 dn Z ∧ Fr ok w5 (w8.setCell ⟨p, 3, none⟩ v8) := by
  have hst : ∀ (g : Nat) (C : Array Value) (t : TypeId) (fr : Nat × Nat), t ≠ 129 → w5.heap[g]? = some (.cells C t fr) → w8.heap[g]? = w5.heap[g]? := fun g C t fr ht hg => by
    have h1 : (w5.alloc (.cells #[.int .i64 (i : Int), v] T)).heap[g]? = w5.heap[g]? := Below.heap_alloc w5 _ g (blk_lt hg)
    refine (hg8.block g (by have := blk_lt hg; simp; omega) (fun e => ?_)).trans h1
    rcases ho.2 with ⟨hv, _⟩ | ⟨g', cap, cur, hv, _, hh, _⟩
    · rw [hv] at e; simp [Value.ownBlock] at e
    · rw [hv] at e
      have e : g = g' := by simpa [Value.ownBlock] using e
      subst e
      rw [hh] at hg
      injection hg with hg
      injection hg with _ hg
      exact ht hg.symm
  have hp8 := hst p _ _ _ (by decide) h.blk
  have hL8 : LRow w8 base ok v8 (D.loose ++ [(i, b)]) := by
    obtain ⟨A8, c8, rfl⟩ := own_slice hown8
    refine ⟨A8, c8, cs ++ [.int .i64 (i : Int), v], by simp, by simpa using hown8, fun k hk => ?_, fun j x hj => ?_⟩
    · rcases hat8 with e | e
      · exact hLok k (e ▸ hk)
      · rw [e] at hk
        injection hk with hk
        exact hfr k (by subst hk; simp)
    · have hcl : cs.length = D.loose.length * 2 := by have := ho.1; omega
      by_cases hlt : j < D.loose.length
      · rw [List.getElem?_append_left hlt] at hj
        obtain ⟨u, hu0, hu, hp⟩ := hrow j x hj
        exact ⟨u, by rw [List.getElem?_append_left (by omega)]; exact hu0, by rw [List.getElem?_append_left (by omega)]; exact hu, hp.keep fun g C fr hok hg => ⟨hst g C _ fr (by decide) hg, hok⟩⟩
      · have hl := (List.getElem?_eq_some_iff.1 hj).1
        simp at hl
        obtain rfl : j = D.loose.length := by omega
        simp at hj
        subst hj
        exact ⟨v, by rw [← hcl]; simp, by rw [← hcl, List.getElem?_append_right (by omega)]; simp, hv.keep fun g C fr hok hg => ⟨hst g C _ fr (by decide) hg, hok⟩⟩
  have hwf := h.wf
  have hwf' : (D.written i b).OK := ⟨hwf.s1, hwf.s2, hwf.s3, hwf.l1, hwf.l2, hwf.g1, hwf.g2, fun x hx => by
    rcases List.mem_append.1 hx with hx | hx
    · exact hwf.o1 x hx
    · rw [List.mem_singleton.1 hx]; exact ⟨hi, hbl⟩, hwf.f1, hwf.f2⟩
  refine ⟨hp8, h.reloose hp8 (fun g C fr hg => hst g C _ fr (by decide) hg) (fun g C hg => hst g C _ _ (by decide) hg) hL8 hwf', Fr.set ?_ h.okp 3 v8⟩
  exact (Fr.of_below ((Below.refl _ w5).alloc (Nat.le_refl _) _)).trans (Fr.of_grown hg8 (fun k hk => hLok k hk))

def WriteP (w : World) (base : Nat) (ok : Nat → Prop) (p : Nat) (D : Dk) (I : Int) (b : List UInt8) (e : Ending) (w' : World) : Prop :=
  (¬ (0 ≤ I ∧ I < D.good.length) ∧ e = .returned (.int .i64 15) ∧ w' = w) ∨ ((0 ≤ I ∧ I < D.good.length) ∧ b.length ≠ D.size ∧ e = .returned (.int .i64 1) ∧ w' = w) ∨
  ((0 ≤ I ∧ I < D.good.length) ∧ b.length = D.size ∧ D.fails = 0 ∧ e = .returned (.int .i64 20) ∧ DiskAt w' base ok p D.count ∧ Fr ok w w') ∨
  ((0 ≤ I ∧ I < D.good.length) ∧ b.length = D.size ∧ D.fails ≠ 0 ∧ e = .returned (.int .i64 0) ∧ DiskAt w' base ok p (D.count.written I.toNat b) ∧ Fr ok w w')

set_option maxRecDepth 100000 in
set_option maxHeartbeats 4000000 in
theorem dwrite_any {w : World} {base : Nat} {ok : Nat → Prop} {p : Nat} {D : Dk} (h : DiskAt w base ok p D) (hfr : ∀ k, w.heap.size ≤ k → ok k) (hbase : base ≤ w.heap.size) (hc : D.calls < 1000000000) (hlo : D.loose.length ≤ 1000000000) (I : Int) (B : Nat) (A : Option Addr) (n c : Nat) (b : List UInt8) (hb : Sl w B A n c b) (hne : ∀ ad, A = some ad → ad.block ≠ p ∧ ad.block < w.heap.size) (hnm : n ≤ 140737488355328) :
    Calls Try.prog 21 #[.pointer (some ⟨p, 0, none⟩), .int .i64 I, .slice A n c] w (WriteP w base ok p D I b) := by
  obtain ⟨ib, bi0, bz0, bz1, bz2⟩ := info_parts info_loose
  have hth := dthere_any h I
  obtain ⟨G, L, dn, Z, h⟩ := h
  have hbl := hb.len
  by_cases t0 : 0 ≤ I ∧ I < (D.good.length : Int)
  case neg =>
    have d0 : decide (0 ≤ I ∧ I < (D.good.length : Int)) = false := decide_eq_false t0
    rw [d0] at hth
    go_enter Try.func21, Try.ntmps21
    go_wp2_with (first | (go_at_call 57; refine hth.mono ?_; rintro e w' ⟨rfl, rfl⟩))
    go_ret
    exact .inl ⟨t0, rfl, rfl⟩
  have d0 : decide (0 ≤ I ∧ I < (D.good.length : Int)) = true := decide_eq_true t0
  rw [d0] at hth
  clear d0
  obtain ⟨c0, _⟩ := h.blk.cells
  obtain ⟨S, hS⟩ : ∃ S, D.size = S := ⟨_, rfl⟩
  rw [hS] at c0
  have HS := Lib.hid hS
  have HBL := Lib.hid hbl
  have HT0 := Lib.hid t0
  clear hS hbl
  by_cases t1 : n = S
  case neg =>
    have d1 : (n == S) = false := by simp [t1]
    have d1' : ((n : Int) != (S : Int)) = true := by simp; omega
    clear t0
    go_enter Try.func21, Try.ntmps21
    go_wp2_with (first | (go_at_call 57; refine hth.mono ?_; rintro e w' ⟨rfl, rfl⟩))
    go_ret
    exact .inr (.inl ⟨HT0.out, by rw [HBL.out, HS.out]; exact t1, rfl, rfl⟩)
  subst t1
  have hn512 : 512 ≤ n := by have := h.wf.s1; have := HS.out; omega
  obtain ⟨II, rfl⟩ := Int.eq_ofNat_of_zero_le t0.1
  have HII := Lib.hid (show II < D.good.length from by have := t0.2; omega)
  have hcnt := dcount_any h hc
  obtain ⟨E, hE⟩ : ∃ E, D.err = E := ⟨_, rfl⟩
  rw [hE] at hcnt
  have HE := Lib.hid hE
  have hokp := h.okp
  clear hE h t0
  by_cases t3 : D.fails = 0
  · have hE20 : E = 20 := by rw [← HE.out]; unfold Dk.err; rw [if_pos t3]
    subst hE20
    have HT3 := Lib.hid t3
    clear t3
    go_enter Try.func21, Try.ntmps21
    go_wp2_with (first | (go_at_call 57; refine hth.mono ?_; rintro e w' ⟨rfl, rfl⟩) | (go_at_call 54; refine hcnt.mono ?_; rintro e w1 ⟨rfl, hD1, hA1⟩))
    go_ret
    exact .inr (.inr (.inl ⟨HT0.out, by rw [HBL.out, HS.out], HT3.out, rfl, ⟨_, _, _, _, hD1⟩, Fr.of_at hA1 hokp⟩))
  · have hE0 : E = 0 := by rw [← HE.out]; unfold Dk.err; rw [if_neg t3]
    subst hE0
    have HT3 := Lib.hid t3
    clear t3
    go_enter Try.func21, Try.ntmps21
    go_wp2_with fail
    refine hth.mono ?_
    rintro e w' ⟨rfl, rfl⟩
    go_wp2_with fail
    refine hcnt.mono ?_
    rintro e w1 ⟨rfl, hD1, hA1⟩
    have hF1 := Fr.of_at hA1 hokp
    have hz1 := hF1.size
    have hb1 : Sl w1 B A n c b := hb.same fun ad e => hA1.block ad.block (hne ad e).2 (fun e' => (hne ad e).1 (by injection e'))
    have hfr1 : ∀ k, w1.drew.heap.size ≤ k → ok k := fun k hk => hfr k (Nat.le_trans hz1 hk)
    have HFR := Lib.hid hfr1
    have hDd := hD1.drew
    have hb1d : Sl w1.drew B A n c b := hb1.same (fun _ _ => rfl)
    obtain ⟨A0, c0', cs0, hL0, hoL, hLok, hrow0⟩ := hDd.loose
    obtain ⟨m, hm⟩ : ∃ m, D.count.loose.length = m := ⟨_, rfl⟩
    have HMM := Lib.hid hm
    have hmm : m ≤ 1000000000 := by rw [← hm]; exact hlo
    rw [hm] at hL0
    subst hL0
    obtain ⟨_, _, _, e3, _⟩ := hDd.blk.cells
    have e3r : w1.cell? ⟨p, 3, none⟩ = some (.slice A0 m c0') := e3
    have HDD := Lib.hid hDd
    clear hcnt hth hb hb1 hD1 hDd hfr1 hoL hLok hrow0 hm hlo
    go_wp2_with fail
    refine wp_region_held_drew (S := (fun _ => True)) (by kernel_rfl) ?_ (fun hHeld => ?_)
    · exact trivial
    refine takeP (i := 0) rfl (by kernel_rfl) (by kernel_rfl) (by kernel_rfl) (fun _ _ _ h => h) (by rfl) (by assumption) (v := ?_) ?_ ?_
    rotate_left
    · intro w' hSw
      try dsimp only at hSw
      go_simp
      try with_reducible rfl
    try simp only [Act.put, List.setIfInBounds_toArray, List.set_cons_zero, List.set_cons_succ]
    refine takeP (i := 1) rfl (by kernel_rfl) (by kernel_rfl) (by kernel_rfl) (fun _ _ _ h => h) (by rfl) (by assumption) (v := ?_) ?_ ?_
    rotate_left
    · intro w' hSw
      try dsimp only at hSw
      go_simp
      try with_reducible rfl
    try simp only [Act.put, List.setIfInBounds_toArray, List.set_cons_zero, List.set_cons_succ]
    refine takeP (i := 2) rfl (by kernel_rfl) (by kernel_rfl) (by kernel_rfl) (fun _ _ _ h => h) (by rfl) (by assumption) (v := ?_) ?_ ?_
    rotate_left
    · intro w' hSw
      try dsimp only at hSw
      go_simp
      try with_reducible rfl
    try simp only [Act.put, List.setIfInBounds_toArray, List.set_cons_zero, List.set_cons_succ]
    refine takeP (i := 3) rfl (by kernel_rfl) (by kernel_rfl) (by kernel_rfl) (fun _ _ _ h => h) (by rfl) (by assumption) (v := ?_) ?_ ?_
    rotate_left
    · intro w' hSw
      try dsimp only at hSw
      go_simp
      try with_reducible rfl
    try simp only [Act.put, List.setIfInBounds_toArray, List.set_cons_zero, List.set_cons_succ]
    refine takeP (i := 5) rfl (by kernel_rfl) (by kernel_rfl) (by kernel_rfl) (fun _ _ _ h => h) (by rfl) (by assumption) (v := ?_) ?_ ?_
    rotate_left
    · intro w' hSw
      try dsimp only at hSw
      go_simp
      try with_reducible rfl
    try simp only [Act.put, List.setIfInBounds_toArray, List.set_cons_zero, List.set_cons_succ]
    refine takeP (i := 6) rfl (by kernel_rfl) (by kernel_rfl) (by kernel_rfl) (fun _ _ _ h => h) (by rfl) (by assumption) (v := ?_) ?_ ?_
    rotate_left
    · intro w' hSw
      try dsimp only at hSw
      go_simp
      try with_reducible rfl
    try simp only [Act.put, List.setIfInBounds_toArray, List.set_cons_zero, List.set_cons_succ]
    refine carryP2 (i := 4) (j := 7) rfl rfl (by kernel_rfl) (by rfl) (by rfl) (fun K hK => ?_) (fun K hK => ?_)
    · go_simp
      refine hK.out _ _ ?_ (fun hHeld => ?_)
      · exact trivial
      clear hK K
      try simp only [Act.put, List.setIfInBounds_toArray, List.set_cons_zero, List.set_cons_succ]
      refine carryP (i := 7) rfl (by kernel_rfl) (by rfl) (fun K hK => ?_)
      go_simp
      refine (clone_any _ _ _ _ _ _ hb1d hnm).mono ?_
      rintro e w5 ⟨v5, he5, hown5, hb5⟩
      obtain ⟨Av, cv, hv5⟩ := own_slice hown5
      subst hv5
      subst he5
      have hD5 := HDD.out.below hb5
      have hz5 := hb5.size
      have hv5 : PgAt w5 ok (.slice Av n cv) b := PgAt.of_own hown5 (by omega) (fun k hk => HFR.out k hk)
      obtain ⟨A0', c0'', cs5, hL5, hoL, hLok, hrow5⟩ := hD5.loose
      have HL5 := Lib.hid hL5
      clear hL5
      obtain ⟨_, _, _, e3, _⟩ := hD5.blk.cells
      refine hK.out _ _ ?_ (fun hHeld => ?_)
      · exact trivial
      clear hK K
      try simp only [Act.put, List.setIfInBounds_toArray, List.set_cons_zero, List.set_cons_succ]
      refine takeP (i := 8) rfl (by kernel_rfl) (by kernel_rfl) (by kernel_rfl) (fun _ _ _ h => h) (by rfl) (by assumption) (v := ?_) ?_ ?_
      rotate_left
      · intro w' hSw
        try dsimp only at hSw
        go_simp
        try with_reducible rfl
      try simp only [Act.put, List.setIfInBounds_toArray, List.set_cons_zero, List.set_cons_succ]
      refine carryP (i := 9) rfl (by kernel_rfl) (by rfl) (fun K hK => ?_)
      go_simp
      refine hK.out _ _ ?_ (fun hHeld => ?_)
      · exact trivial
      clear hK K
      try simp only [Act.put, List.setIfInBounds_toArray, List.set_cons_zero, List.set_cons_succ]
      refine carryP (i := 10) rfl (by kernel_rfl) (by rfl) (fun K hK => ?_)
      refine wp_append_any _ (.tmp 33) (.tmp 38) _ rfl base 129 ib _ 2 32 Try.underlying107 bi0 bz0 bz1 bz2 rfl (by omega) (.slice A0 m c0') D.count.loose.length _ (by rfl) (hoL.alloc _) (w5.heap.size + 1) (some ⟨w5.heap.size, 0, none⟩) 1 1 [.int .i64 (II : Int), .slice Av n cv] (by rfl) (Reads.two _ _ _ _) (by simp [Value.oneCell']) (by rw [HMM.out]; unfold maxLen; omega) (by rw [HMM.out]; omega) (by have : w.heap.size ≤ w5.heap.size := Nat.le_trans hz1 hz5; simp; omega) ?_
      intro v8 w8 hown8 hg8 hat8
      obtain ⟨hp8, hD9, hF9⟩ := write_step hD5 hv5 (fun k hk => HFR.out k (Nat.le_trans hz5 hk)) HII.out (by rw [HBL.out]; exact HS.out.symm) HL5.out hoL hrow5 hLok hown8 hg8 hat8
      have hb8 := hp8.trans hD5.blk
      have k2 : w8.cell? ⟨p, 3, none⟩ = some (.slice A0 m c0') := blk_cell hb8 3
      have k2f : w8.frozen? ⟨p, 3, none⟩ = false := blk_frozen hb8 3
      obtain ⟨A8, c8, rfl⟩ := own_slice hown8
      refine hK.out _ _ ?_ (fun hHeld => ?_)
      · exact trivial
      clear hK K
      try simp only [Act.put, List.setIfInBounds_toArray, List.set_cons_zero, List.set_cons_succ]
      refine takeP (i := 11) rfl (by kernel_rfl) (by kernel_rfl) (by kernel_rfl) (fun _ _ _ h => h) (by rfl) (by assumption) (v := ?_) ?_ ?_
      rotate_left
      · intro w' hSw
        try dsimp only at hSw
        go_simp
        try with_reducible rfl
      try simp only [Act.put, List.setIfInBounds_toArray, List.set_cons_zero, List.set_cons_succ]
      refine takeP (i := 12) rfl (by kernel_rfl) (by kernel_rfl) (by kernel_rfl) (fun _ _ _ h => h) (by rfl) (by assumption) (v := ?_) ?_ ?_
      rotate_left
      · intro w' hSw
        try dsimp only at hSw
        go_simp
        try with_reducible rfl
      try simp only [Act.put, List.setIfInBounds_toArray, List.set_cons_zero, List.set_cons_succ]
      refine carryP (i := 13) rfl (by kernel_rfl) (by rfl) (fun K hK => ?_)
      go_simp
      refine hK.out _ _ ?_ (fun hHeld => ?_)
      · exact trivial
      clear hK K
      try simp only [Act.put, List.setIfInBounds_toArray, List.set_cons_zero, List.set_cons_succ]
      refine wpAnyH_done (by kernel_rfl) ?_ _
      have hF10 := (hF1.drew.trans (Fr.of_below hb5)).trans hF9
      have HD9 := Lib.hid (show DiskAt (w8.setCell ⟨p, 3, none⟩ (.slice A8 (D.count.loose.length + 1) c8)) base ok p (D.count.written II b) from ⟨_, _, _, _, hD9⟩)
      clear hD9 k2 k2f hb8 hp8 hown8 hg8 hat8 hF9 hrow5 hoL hLok hD5 hv5 hb5 hown5
      generalize w8.setCell ⟨p, 3, none⟩ (.slice A8 (D.count.loose.length + 1) c8) = w9 at HD9 hF10 ⊢
      go_wp2_with fail
      go_ret
      exact .inr (.inr (.inr ⟨HT0.out, by rw [HBL.out, HS.out], HT3.out, rfl, by rw [Int.toNat_natCast]; exact HD9.out, hF10⟩))
    · go_simp
      refine (clone_any _ _ _ _ _ _ hb1d hnm).mono ?_
      rintro e w5 ⟨v5, he5, hown5, hb5⟩
      obtain ⟨Av, cv, hv5⟩ := own_slice hown5
      subst hv5
      subst he5
      have hD5 := HDD.out.below hb5
      have hz5 := hb5.size
      have hv5 : PgAt w5 ok (.slice Av n cv) b := PgAt.of_own hown5 (by omega) (fun k hk => HFR.out k hk)
      obtain ⟨A0', c0'', cs5, hL5, hoL, hLok, hrow5⟩ := hD5.loose
      have HL5 := Lib.hid hL5
      clear hL5
      obtain ⟨_, _, _, e3, _⟩ := hD5.blk.cells
      refine hK.out _ _ ?_ (fun hHeld => ?_)
      · exact trivial
      clear hK K
      try simp only [Act.put, List.setIfInBounds_toArray, List.set_cons_zero, List.set_cons_succ]
      refine takeP (i := 8) rfl (by kernel_rfl) (by kernel_rfl) (by kernel_rfl) (fun _ _ _ h => h) (by rfl) (by assumption) (v := ?_) ?_ ?_
      rotate_left
      · intro w' hSw
        try dsimp only at hSw
        go_simp
        try with_reducible rfl
      try simp only [Act.put, List.setIfInBounds_toArray, List.set_cons_zero, List.set_cons_succ]
      refine carryP2 (i := 4) (j := 9) rfl rfl (by kernel_rfl) (by rfl) (by rfl) (fun K hK => ?_) (fun K hK => ?_)
      · go_simp
        refine hK.out _ _ ?_ (fun hHeld => ?_)
        · exact trivial
        clear hK K
        try simp only [Act.put, List.setIfInBounds_toArray, List.set_cons_zero, List.set_cons_succ]
        refine carryP (i := 9) rfl (by kernel_rfl) (by rfl) (fun K hK => ?_)
        go_simp
        refine hK.out _ _ ?_ (fun hHeld => ?_)
        · exact trivial
        clear hK K
        try simp only [Act.put, List.setIfInBounds_toArray, List.set_cons_zero, List.set_cons_succ]
        refine carryP (i := 10) rfl (by kernel_rfl) (by rfl) (fun K hK => ?_)
        refine wp_append_any _ (.tmp 33) (.tmp 38) _ rfl base 129 ib _ 2 32 Try.underlying107 bi0 bz0 bz1 bz2 rfl (by omega) (.slice A0 m c0') D.count.loose.length _ (by rfl) (hoL.alloc _) (w5.heap.size + 1) (some ⟨w5.heap.size, 0, none⟩) 1 1 [.int .i64 (II : Int), .slice Av n cv] (by rfl) (Reads.two _ _ _ _) (by simp [Value.oneCell']) (by rw [HMM.out]; unfold maxLen; omega) (by rw [HMM.out]; omega) (by have : w.heap.size ≤ w5.heap.size := Nat.le_trans hz1 hz5; simp; omega) ?_
        intro v8 w8 hown8 hg8 hat8
        obtain ⟨hp8, hD9, hF9⟩ := write_step hD5 hv5 (fun k hk => HFR.out k (Nat.le_trans hz5 hk)) HII.out (by rw [HBL.out]; exact HS.out.symm) HL5.out hoL hrow5 hLok hown8 hg8 hat8
        have hb8 := hp8.trans hD5.blk
        have k2 : w8.cell? ⟨p, 3, none⟩ = some (.slice A0 m c0') := blk_cell hb8 3
        have k2f : w8.frozen? ⟨p, 3, none⟩ = false := blk_frozen hb8 3
        obtain ⟨A8, c8, rfl⟩ := own_slice hown8
        refine hK.out _ _ ?_ (fun hHeld => ?_)
        · exact trivial
        clear hK K
        try simp only [Act.put, List.setIfInBounds_toArray, List.set_cons_zero, List.set_cons_succ]
        refine takeP (i := 11) rfl (by kernel_rfl) (by kernel_rfl) (by kernel_rfl) (fun _ _ _ h => h) (by rfl) (by assumption) (v := ?_) ?_ ?_
        rotate_left
        · intro w' hSw
          try dsimp only at hSw
          go_simp
          try with_reducible rfl
        try simp only [Act.put, List.setIfInBounds_toArray, List.set_cons_zero, List.set_cons_succ]
        refine takeP (i := 12) rfl (by kernel_rfl) (by kernel_rfl) (by kernel_rfl) (fun _ _ _ h => h) (by rfl) (by assumption) (v := ?_) ?_ ?_
        rotate_left
        · intro w' hSw
          try dsimp only at hSw
          go_simp
          try with_reducible rfl
        try simp only [Act.put, List.setIfInBounds_toArray, List.set_cons_zero, List.set_cons_succ]
        refine carryP (i := 13) rfl (by kernel_rfl) (by rfl) (fun K hK => ?_)
        go_simp
        refine hK.out _ _ ?_ (fun hHeld => ?_)
        · exact trivial
        clear hK K
        try simp only [Act.put, List.setIfInBounds_toArray, List.set_cons_zero, List.set_cons_succ]
        refine wpAnyH_done (by kernel_rfl) ?_ _
        have hF10 := (hF1.drew.trans (Fr.of_below hb5)).trans hF9
        have HD9 := Lib.hid (show DiskAt (w8.setCell ⟨p, 3, none⟩ (.slice A8 (D.count.loose.length + 1) c8)) base ok p (D.count.written II b) from ⟨_, _, _, _, hD9⟩)
        clear hD9 k2 k2f hb8 hp8 hown8 hg8 hat8 hF9 hrow5 hoL hLok hD5 hv5 hb5 hown5
        generalize w8.setCell ⟨p, 3, none⟩ (.slice A8 (D.count.loose.length + 1) c8) = w9 at HD9 hF10 ⊢
        go_wp2_with fail
        go_ret
        exact .inr (.inr (.inr ⟨HT0.out, by rw [HBL.out, HS.out], HT3.out, rfl, by rw [Int.toNat_natCast]; exact HD9.out, hF10⟩))
      · go_simp
        refine hK.out _ _ ?_ (fun hHeld => ?_)
        · exact trivial
        clear hK K
        try simp only [Act.put, List.setIfInBounds_toArray, List.set_cons_zero, List.set_cons_succ]
        refine carryP (i := 4) rfl (by kernel_rfl) (by rfl) (fun K hK => ?_)
        have q3 : (w5.alloc (.cells #[.int .i64 (II : Int), .slice Av n cv] 129)).cell? ⟨p, 3, none⟩ = some (.slice A0 m c0') := (World.cell?_alloc_lt w5 _ ⟨p, 3, none⟩ hD5.blk.lt).trans e3
        go_simp
        refine hK.out _ _ ?_ (fun hHeld => ?_)
        · exact trivial
        clear hK K
        try simp only [Act.put, List.setIfInBounds_toArray, List.set_cons_zero, List.set_cons_succ]
        refine carryP (i := 10) rfl (by kernel_rfl) (by rfl) (fun K hK => ?_)
        refine wp_append_any _ (.tmp 33) (.tmp 38) _ rfl base 129 ib _ 2 32 Try.underlying107 bi0 bz0 bz1 bz2 rfl (by omega) (.slice A0 m c0') D.count.loose.length _ (by rfl) (hoL.alloc _) (w5.heap.size + 1) (some ⟨w5.heap.size, 0, none⟩) 1 1 [.int .i64 (II : Int), .slice Av n cv] (by rfl) (Reads.two _ _ _ _) (by simp [Value.oneCell']) (by rw [HMM.out]; unfold maxLen; omega) (by rw [HMM.out]; omega) (by have : w.heap.size ≤ w5.heap.size := Nat.le_trans hz1 hz5; simp; omega) ?_
        intro v8 w8 hown8 hg8 hat8
        obtain ⟨hp8, hD9, hF9⟩ := write_step hD5 hv5 (fun k hk => HFR.out k (Nat.le_trans hz5 hk)) HII.out (by rw [HBL.out]; exact HS.out.symm) HL5.out hoL hrow5 hLok hown8 hg8 hat8
        have hb8 := hp8.trans hD5.blk
        have k2 : w8.cell? ⟨p, 3, none⟩ = some (.slice A0 m c0') := blk_cell hb8 3
        have k2f : w8.frozen? ⟨p, 3, none⟩ = false := blk_frozen hb8 3
        obtain ⟨A8, c8, rfl⟩ := own_slice hown8
        refine hK.out _ _ ?_ (fun hHeld => ?_)
        · exact trivial
        clear hK K
        try simp only [Act.put, List.setIfInBounds_toArray, List.set_cons_zero, List.set_cons_succ]
        refine takeP (i := 11) rfl (by kernel_rfl) (by kernel_rfl) (by kernel_rfl) (fun _ _ _ h => h) (by rfl) (by assumption) (v := ?_) ?_ ?_
        rotate_left
        · intro w' hSw
          try dsimp only at hSw
          go_simp
          try with_reducible rfl
        try simp only [Act.put, List.setIfInBounds_toArray, List.set_cons_zero, List.set_cons_succ]
        refine takeP (i := 12) rfl (by kernel_rfl) (by kernel_rfl) (by kernel_rfl) (fun _ _ _ h => h) (by rfl) (by assumption) (v := ?_) ?_ ?_
        rotate_left
        · intro w' hSw
          try dsimp only at hSw
          go_simp
          try with_reducible rfl
        try simp only [Act.put, List.setIfInBounds_toArray, List.set_cons_zero, List.set_cons_succ]
        refine carryP (i := 13) rfl (by kernel_rfl) (by rfl) (fun K hK => ?_)
        go_simp
        refine hK.out _ _ ?_ (fun hHeld => ?_)
        · exact trivial
        clear hK K
        try simp only [Act.put, List.setIfInBounds_toArray, List.set_cons_zero, List.set_cons_succ]
        refine wpAnyH_done (by kernel_rfl) ?_ _
        have hF10 := (hF1.drew.trans (Fr.of_below hb5)).trans hF9
        have HD9 := Lib.hid (show DiskAt (w8.setCell ⟨p, 3, none⟩ (.slice A8 (D.count.loose.length + 1) c8)) base ok p (D.count.written II b) from ⟨_, _, _, _, hD9⟩)
        clear hD9 k2 k2f hb8 hp8 hown8 hg8 hat8 hF9 hrow5 hoL hLok hD5 hv5 hb5 hown5
        generalize w8.setCell ⟨p, 3, none⟩ (.slice A8 (D.count.loose.length + 1) c8) = w9 at HD9 hF10 ⊢
        go_wp2_with fail
        go_ret
        exact .inr (.inr (.inr ⟨HT0.out, by rw [HBL.out, HS.out], HT3.out, rfl, by rw [Int.toNat_natCast]; exact HD9.out, hF10⟩))

end Go.Proofs.Ythijobbhpbklmaa
