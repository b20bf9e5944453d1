/- Layer 3: Grow. -/
import Derived.Test.YthijobbhpbklmaaOnceB
namespace Go.Proofs.Ythijobbhpbklmaa
open Go.RowKit
set_option linter.unusedVariables false
set_option linter.unusedSimpArgs false

theorem info_bytes : (Try.prog.info? 30).map (fun i => (i.zero, i.size, i.bytes)) = some (some (.slice none 0 0), 1, 24) := by kernel_rfl
theorem DAt.drew {w : World} {base p : Nat} {ok : Nat → Prop} {D : Dk} {G L Z : Value} {dn : Int} (h : DAt w base ok p D G L dn Z) : DAt w.drew base ok p D G L dn Z := h.below (Below.refl _ _).drew
/-- The pages are others. -/
theorem DAt.regood {w w8 : World} {base p : Nat} {ok : Nat → Prop} {D : Dk} {G G' L Z : Value} {dn : Int} {good' : List (List UInt8)} (h : DAt w base ok p D G L dn Z) (hp : w8.heap[p]? = w.heap[p]?)
    (hb : ∀ (g : Nat) (C : Array Value) (fr : Nat × Nat), w.heap[g]? = some (.cells C 5 fr) → w8.heap[g]? = w.heap[g]?) (hl : ∀ (g : Nat) (C : Array Value), w.heap[g]? = some (.cells C 129 (0, 0)) → w8.heap[g]? = w.heap[g]?)
    (hG : GRow w8 base ok G' good') (hwf : ({ D with good := good' } : Dk).OK) : DAt (w8.setCell ⟨p, 2, none⟩ G') base ok p { D with good := good' } G' L dn Z := by
  have hpb : DBlk w8 p D.size D.limit G L D.fails D.calls dn Z := hp.trans h.blk
  have hne : ∀ (g : Nat) (C : Array Value) (t : TypeId) (fr : Nat × Nat), t ≠ 123 → w8.heap[g]? = some (.cells C t fr) → (w8.setCell ⟨p, 2, none⟩ G').heap[g]? = w8.heap[g]? := fun g C t fr ht hg => Below.heap_setCell _ _ _ _ (fun e => by
    subst e
    rw [hpb] at hg
    injection hg with hg
    injection hg with _ hg
    exact ht hg.symm)
  refine ⟨hpb.set2 G', h.bp, h.okp, hG.keep (fun g C hc => hne g C 30 (0, 0) (by decide) hc) (fun g C fr hc => hne g C 5 fr (by decide) hc), ?_, ?_, hwf, h.cb⟩
  · exact (h.loose.keep (w' := w8) hl hb).keep (fun g C hc => hne g C 129 (0, 0) (by decide) hc) (fun g C fr hc => hne g C 5 fr (by decide) hc)
  · rcases h.zer with h0 | ⟨h1, h2⟩
    · exact .inl h0
    · exact .inr ⟨h1, h2.keep fun g C fr ho hg => ⟨(hne g C 5 fr (by decide) ((hb g C fr hg).trans hg)).trans (hb g C fr hg), ho⟩⟩
/-- One page more was appended. -/
theorem grow_step {w5 w8 : World} {base p : Nat} {ok : Nat → Prop} {D : Dk} {G L Z5 : Value} (h : DAt w5 base ok p D G L 1 Z5) (hZ : PgAt w5 ok Z5 (zeros D.size)) (hfr : ∀ k, w5.heap.size ≤ k → ok k) (hlim : D.good.length + 1 ≤ D.limit) {cs : List Value} {c0 : Nat} {A0 : Option Addr} (hG0 : G = .slice A0 D.good.length c0)
    (ho : w5.ownsRow base 30 1 G D.good.length cs) (hrow : ∀ (i : Nat) (l : List UInt8), D.good[i]? = some l → ∃ v : Value, cs[i]? = some v ∧ PgAt w5 ok v l) (hGok : ∀ k, G.ownBlock = some k → ok k) {v8 : Value} {T : TypeId} (hT : T ≠ 123)
    (hown8 : w8.ownsRow base 30 1 v8 (D.good.length + 1) (cs ++ [Z5])) (hg8 : (w5.alloc (.cells #[Z5] T)).grownBy w8 G.ownBlock) (hat8 : v8.ownBlock = G.ownBlock ∨ v8.ownBlock = some (w5.alloc (.cells #[Z5] T)).heap.size) :
    w8.heap[p]? = w5.heap[p]? ∧ DAt (w8.setCell ⟨p, 2, none⟩ v8) base ok p { D with good := D.good ++ [zeros D.size] } v8 L 1 Z5 ∧ Fr ok w5 (w8.setCell ⟨p, 2, none⟩ v8) := by
  have hst : ∀ (g : Nat) (C : Array Value) (t : TypeId) (fr : Nat × Nat), t ≠ 30 → w5.heap[g]? = some (.cells C t fr) → w8.heap[g]? = w5.heap[g]? := fun g C t fr ht hg => by
    have h1 : (w5.alloc (.cells #[Z5] T)).heap[g]? = w5.heap[g]? := Below.heap_alloc w5 _ g (blk_lt hg)
    refine (hg8.block g (by have := blk_lt hg; simp; omega) (fun e => ?_)).trans h1
    rcases ho.2 with ⟨hv, _⟩ | ⟨g', cap, cur, hv, _, hh, _⟩
    · rw [hv] at e; simp [Value.ownBlock] at e
    · rw [hv] at e
      have e : g = g' := by simpa [Value.ownBlock] using e
      subst e
      rw [hh] at hg
      injection hg with hg
      injection hg with _ hg
      exact ht hg.symm
  have hp8 := hst p _ _ _ (by decide) h.blk
  have hG8 : GRow w8 base ok v8 (D.good ++ [zeros D.size]) := by
    obtain ⟨A8, c8, rfl⟩ := own_slice hown8
    refine ⟨A8, c8, cs ++ [Z5], by simp, by simpa using hown8, fun k hk => ?_, fun i l hi => ?_⟩
    · rcases hat8 with e | e
      · exact hGok k (e ▸ hk)
      · rw [e] at hk
        injection hk with hk
        exact hfr k (by subst hk; simp)
    · have hcl : cs.length = D.good.length := by have := ho.1; omega
      by_cases hlt : i < D.good.length
      · rw [List.getElem?_append_left hlt] at hi
        obtain ⟨v, hv, hp⟩ := hrow i l hi
        exact ⟨v, by rw [List.getElem?_append_left (by omega)]; exact hv, hp.keep fun g C fr hok hg => ⟨hst g C _ fr (by decide) hg, hok⟩⟩
      · have hl := (List.getElem?_eq_some_iff.1 hi).1
        simp at hl
        obtain rfl : i = D.good.length := by omega
        simp at hi
        subst hi
        exact ⟨Z5, by rw [← hcl]; simp, hZ.keep fun g C fr hok hg => ⟨hst g C _ fr (by decide) hg, hok⟩⟩
  have hwf := h.wf
  have hwf' : ({ D with good := D.good ++ [zeros D.size] } : Dk).OK := ⟨hwf.s1, hwf.s2, hwf.s3, hwf.l1, hwf.l2, by simpa using hlim, fun r hr => by
    rcases List.mem_append.1 hr with hr | hr
    · exact hwf.g2 r hr
    · rw [List.mem_singleton.1 hr]; exact zeros_length _, fun x hx => ⟨by have := (hwf.o1 x hx).1; simp; omega, (hwf.o1 x hx).2⟩, hwf.f1, hwf.f2⟩
  refine ⟨hp8, h.regood hp8 (fun g C fr hg => hst g C _ fr (by decide) hg) (fun g C hg => hst g C _ _ (by decide) hg) hG8 hwf', Fr.set ?_ h.okp 2 v8⟩
  exact (Fr.of_below ((Below.refl _ w5).alloc (Nat.le_refl _) _)).trans (Fr.of_grown hg8 (fun k hk => hGok k hk))

def GrowP (w : World) (base : Nat) (ok : Nat → Prop) (p : Nat) (D : Dk) (N : Int) (e : Ending) (w' : World) : Prop :=
  (N < D.good.length ∧ e = .returned (.int .i64 1) ∧ w' = w) ∨ ((D.good.length : Int) ≤ N ∧ D.limit < N ∧ e = .returned (.int .i64 21) ∧ w' = w) ∨
  ((D.good.length : Int) ≤ N ∧ N ≤ D.limit ∧ D.fails = 0 ∧ e = .returned (.int .i64 20) ∧ DiskAt w' base ok p D.count ∧ Fr ok w w') ∨
  ((D.good.length : Int) ≤ N ∧ N ≤ D.limit ∧ D.fails ≠ 0 ∧ e = .returned (.int .i64 0) ∧ DiskAt w' base ok p (D.count.grown N.toNat) ∧ Fr ok w w')
/-- So many pages, while it grows. -/
def grownTo (D : Dk) (m : Nat) : Dk := { D with good := D.good ++ List.replicate m (zeros D.size) }
theorem grownTo_succ (D : Dk) (m : Nat) : ({ grownTo D m with good := (grownTo D m).good ++ [zeros (grownTo D m).size] } : Dk) = grownTo D (m + 1) := by
  simp [grownTo, List.replicate_succ', List.append_assoc]
theorem grownTo_len (D : Dk) (m : Nat) : (grownTo D m).good.length = D.good.length + m := by simp [grownTo]

def gLen : Option Value → Nat
  | some (.slice _ n _) => n
  | _ => 0

set_option maxRecDepth 100000 in
set_option maxHeartbeats 4000000 in
theorem dgrow_any {w : World} {base : Nat} {ok : Nat → Prop} {p : Nat} {D : Dk} (h : DiskAt w base ok p D) (hfr : ∀ k, w.heap.size ≤ k → ok k) (hbase : base ≤ w.heap.size) (hc : D.calls < 1000000000) (N : Int) (hN : N ≤ 9223372036854775807) :
    Calls Try.prog 16 #[.pointer (some ⟨p, 0, none⟩), .int .i64 N] w (GrowP w base ok p D N) := by
  obtain ⟨ib, bi0, bz0, bz1, bz2⟩ := info_parts info_bytes
  have hlen := dlen_any h
  obtain ⟨G, L, dn, Z, h⟩ := h
  have hwf := h.wf
  have hg1 := hwf.g1
  have hl2 := hwf.l2
  obtain ⟨n, hn⟩ : ∃ n, D.good.length = n := ⟨_, rfl⟩
  obtain ⟨_, c1, _⟩ := h.blk.cells
  obtain ⟨M, hM⟩ : ∃ M, D.limit = M := ⟨_, rfl⟩
  rw [hM] at c1 hg1 hl2
  rw [hn] at hlen hg1
  have HN := Lib.hid hn
  have HM := Lib.hid hM
  clear hn hM hwf
  by_cases t1 : N < (n : Int)
  · have d1 : decide (N < (n : Int)) = true := decide_eq_true t1
    go_enter Try.func16, Try.ntmps16
    go_wp2_with (first | (go_at_call 19; refine hlen.mono ?_; rintro e w' ⟨rfl, rfl⟩))
    go_ret
    exact .inl ⟨by rw [HN.out]; exact t1, rfl, rfl⟩
  have d1 : decide (N < (n : Int)) = false := decide_eq_false t1
  by_cases t2 : (M : Int) < N
  · have d2 : decide ((M : Int) < N) = true := decide_eq_true t2
    go_enter Try.func16, Try.ntmps16
    go_wp2_with (first | (go_at_call 19; refine hlen.mono ?_; rintro e w' ⟨rfl, rfl⟩))
    go_ret
    exact .inr (.inl ⟨by rw [HN.out]; omega, by rw [HM.out]; exact t2, rfl, rfl⟩)
  have d2 : decide ((M : Int) < N) = false := decide_eq_false t2
  obtain ⟨NN, rfl⟩ := Int.eq_ofNat_of_zero_le (show 0 ≤ N by omega)
  have hcnt := dcount_any h hc
  obtain ⟨E, hE⟩ : ∃ E, D.err = E := ⟨_, rfl⟩
  rw [hE] at hcnt
  have HE := Lib.hid hE
  have hokp := h.okp
  clear hE h
  by_cases t3 : D.fails = 0
  · have hE20 : E = 20 := by rw [← HE.out]; unfold Dk.err; rw [if_pos t3]
    subst hE20
    have HT3 := Lib.hid t3
    clear t3
    go_enter Try.func16, Try.ntmps16
    go_wp2_with (first | (go_at_call 19; refine hlen.mono ?_; rintro e w' ⟨rfl, rfl⟩) | (go_at_call 54; refine hcnt.mono ?_; rintro e w1 ⟨rfl, hD1, hA1⟩))
    go_ret
    exact .inr (.inr (.inl ⟨by rw [HN.out]; omega, by rw [HM.out]; omega, HT3.out, rfl, ⟨_, _, _, _, hD1⟩, Fr.of_at hA1 hokp⟩))
  · have hE0 : E = 0 := by rw [← HE.out]; unfold Dk.err; rw [if_neg t3]
    subst hE0
    have HT3 := Lib.hid t3
    clear t3
    go_enter Try.func16, Try.ntmps16
    go_wp2_with fail
    refine hlen.mono ?_
    rintro e w' ⟨rfl, rfl⟩
    go_wp2_with fail
    refine hcnt.mono ?_
    rintro e w1 ⟨rfl, hD1, hA1⟩
    have hF1 := Fr.of_at hA1 hokp
    have hD1' : DiskAt w1 base ok p (grownTo D.count 0) := ⟨G, L, dn, Z, by simpa [grownTo] using hD1⟩
    have hnl : Hid (D.count.good.length = n) := Lib.hid HN.out
    have hml : Hid (D.count.limit = M) := Lib.hid HM.out
    have hz1 := hF1.size
    clear hD1 hcnt hlen
    go_wp2_with fail
    go_loopw [] (fun wr => ∃ m : Nat, n + m ≤ NN ∧ DiskAt wr base ok p (grownTo D.count m) ∧ Fr ok w wr) (fun wr => NN - gLen (wr.cell? ⟨p, 2, none⟩))
    case atStart => exact ⟨0, by omega, hD1', hF1⟩
    case round =>
      obtain ⟨m, hm, hD, hF⟩ := hrel
      have hlen := dlen_any hD
      have hzr := hF.size
      have hl2m : (grownTo D.count m).good.length = n + m := by rw [grownTo_len, hnl.out]
      have HL2 := Lib.hid hl2m
      rw [hl2m] at hlen
      have hfr2 : ∀ k, wr.drew.heap.size ≤ k → ok k := fun k hk => hfr k (Nat.le_trans hzr hk)
      have HFR := Lib.hid hfr2
      clear hl2m hfr2
      by_cases hlt : n + m < NN
      · have d3 : decide (n + m < NN) = true := decide_eq_true hlt
        have d3' : decide (((n + m : Nat) : Int) < (NN : Int)) = true := decide_eq_true (by omega)
        obtain ⟨G, L, dn, Z, hDA⟩ := hD
        obtain ⟨A0, c0, cs0, hG0, hoG, hGok, hrow0⟩ := hDA.good
        rw [HL2.out] at hG0
        subst hG0
        have hDd := hDA.drew
        obtain ⟨_, _, e2, _⟩ := hDd.blk.cells
        have e2r : wr.cell? ⟨p, 2, none⟩ = some (.slice A0 (n + m) c0) := e2
        have HDD := Lib.hid hDd
        have HME := Lib.hid (show gLen (wr.cell? ⟨p, 2, none⟩) = n + m from by rw [show wr.cell? ⟨p, 2, none⟩ = some (.slice A0 (n + m) c0) from e2]; rfl)
        clear hDA hrow0 hoG hGok hDd
        go_wp2_with fail
        refine hlen.mono ?_
        rintro e w' ⟨rfl, rfl⟩
        clear hlen
        go_wp2_with fail
        refine wp_region_held_drew (S := (fun _ => True)) (by kernel_rfl) ?_ (fun hHeld => ?_)
        · exact trivial
        refine takeP (i := 0) rfl (by kernel_rfl) (by kernel_rfl) (by kernel_rfl) (fun _ _ _ h => h) (by rfl) (by assumption) (v := ?_) ?_ ?_
        rotate_left
        · intro w' hSw
          try dsimp only at hSw
          go_simp
          try with_reducible rfl
        try simp only [Act.put, List.setIfInBounds_toArray, List.set_cons_zero, List.set_cons_succ]
        refine takeP (i := 1) rfl (by kernel_rfl) (by kernel_rfl) (by kernel_rfl) (fun _ _ _ h => h) (by rfl) (by assumption) (v := ?_) ?_ ?_
        rotate_left
        · intro w' hSw
          try dsimp only at hSw
          go_simp
          try with_reducible rfl
        try simp only [Act.put, List.setIfInBounds_toArray, List.set_cons_zero, List.set_cons_succ]
        refine takeP (i := 2) rfl (by kernel_rfl) (by kernel_rfl) (by kernel_rfl) (fun _ _ _ h => h) (by rfl) (by assumption) (v := ?_) ?_ ?_
        rotate_left
        · intro w' hSw
          try dsimp only at hSw
          go_simp
          try with_reducible rfl
        try simp only [Act.put, List.setIfInBounds_toArray, List.set_cons_zero, List.set_cons_succ]
        refine takeP (i := 3) rfl (by kernel_rfl) (by kernel_rfl) (by kernel_rfl) (fun _ _ _ h => h) (by rfl) (by assumption) (v := ?_) ?_ ?_
        rotate_left
        · intro w' hSw
          try dsimp only at hSw
          go_simp
          try with_reducible rfl
        try simp only [Act.put, List.setIfInBounds_toArray, List.set_cons_zero, List.set_cons_succ]
        refine takeP (i := 5) rfl (by kernel_rfl) (by kernel_rfl) (by kernel_rfl) (fun _ _ _ h => h) (by rfl) (by assumption) (v := ?_) ?_ ?_
        rotate_left
        · intro w' hSw
          try dsimp only at hSw
          go_simp
          try with_reducible rfl
        try simp only [Act.put, List.setIfInBounds_toArray, List.set_cons_zero, List.set_cons_succ]
        refine carryP2 (i := 4) (j := 6) rfl rfl (by kernel_rfl) (by rfl) (by rfl) (fun K hK => ?_) (fun K hK => ?_)
        · go_simp
          refine hK.out _ _ ?_ (fun hHeld => ?_)
          · exact trivial
          clear hK K
          try simp only [Act.put, List.setIfInBounds_toArray, List.set_cons_zero, List.set_cons_succ]
          refine carryP (i := 6) rfl (by kernel_rfl) (by rfl) (fun K hK => ?_)
          go_simp
          refine (dempty_any (HDD.out) (HFR.out)).mono ?_
          rintro e w5 ⟨Z5, he5, hD5, hZ5, hA5⟩
          obtain ⟨AZ, cZ, hZe, _⟩ := hZ5.len
          rw [zeros_length] at hZe
          subst hZe
          subst he5
          obtain ⟨A0', c0', cs5, hG5, hoG, hGok, hrow5⟩ := hD5.good
          have HG5 := Lib.hid hG5
          clear hG5
          obtain ⟨_, _, e2, _⟩ := hD5.blk.cells
          have hz5 := hA5.size
          refine hK.out _ _ ?_ (fun hHeld => ?_)
          · exact trivial
          clear hK K
          try simp only [Act.put, List.setIfInBounds_toArray, List.set_cons_zero, List.set_cons_succ]
          refine carryP (i := 7) rfl (by kernel_rfl) (by rfl) (fun K hK => ?_)
          go_simp
          refine hK.out _ _ ?_ (fun hHeld => ?_)
          · exact trivial
          clear hK K
          try simp only [Act.put, List.setIfInBounds_toArray, List.set_cons_zero, List.set_cons_succ]
          refine carryP (i := 8) rfl (by kernel_rfl) (by rfl) (fun K hK => ?_)
          refine wp_append_any _ (.tmp 35) (.tmp 38) _ rfl base 30 ib _ 1 24 Try.underlying106 bi0 bz0 bz1 bz2 rfl (by omega) (.slice A0 (n + m) c0) (grownTo D.count m).good.length _ (by rfl) (hoG.alloc _) (w5.heap.size + 1) (some ⟨w5.heap.size, 0, none⟩) 1 1 [.slice (some AZ) (grownTo D.count m).size cZ] (by rfl) (Reads.one _ _ _) (by intro u hu; rw [List.mem_singleton.1 hu]; rfl) (by rw [HL2.out]; unfold maxLen; omega) (by rw [HL2.out]; omega) (by have : w.heap.size ≤ w5.heap.size := Nat.le_trans hzr hz5; simp; omega) ?_
          intro v8 w8 hown8 hg8 hat8
          obtain ⟨hp8, hD9, hF9⟩ := grow_step hD5 hZ5 (fun k hk => HFR.out k (Nat.le_trans hz5 hk)) (by rw [HL2.out]; show n + m + 1 ≤ D.count.limit; rw [hml.out]; omega) HG5.out hoG hrow5 hGok (by decide) hown8 hg8 hat8
          have hb8 := hp8.trans hD5.blk
          have k2 : w8.cell? ⟨p, 2, none⟩ = some (.slice A0 (n + m) c0) := blk_cell hb8 2
          have k2f : w8.frozen? ⟨p, 2, none⟩ = false := blk_frozen hb8 2
          obtain ⟨A8, c8, rfl⟩ := own_slice hown8
          refine hK.out _ _ ?_ (fun hHeld => ?_)
          · exact trivial
          clear hK K
          try simp only [Act.put, List.setIfInBounds_toArray, List.set_cons_zero, List.set_cons_succ]
          refine takeP (i := 9) rfl (by kernel_rfl) (by kernel_rfl) (by kernel_rfl) (fun _ _ _ h => h) (by rfl) (by assumption) (v := ?_) ?_ ?_
          rotate_left
          · intro w' hSw
            try dsimp only at hSw
            go_simp
            try with_reducible rfl
          try simp only [Act.put, List.setIfInBounds_toArray, List.set_cons_zero, List.set_cons_succ]
          refine takeP (i := 10) rfl (by kernel_rfl) (by kernel_rfl) (by kernel_rfl) (fun _ _ _ h => h) (by rfl) (by assumption) (v := ?_) ?_ ?_
          rotate_left
          · intro w' hSw
            try dsimp only at hSw
            go_simp
            try with_reducible rfl
          try simp only [Act.put, List.setIfInBounds_toArray, List.set_cons_zero, List.set_cons_succ]
          refine carryP (i := 11) rfl (by kernel_rfl) (by rfl) (fun K hK => ?_)
          go_simp
          refine hK.out _ _ ?_ (fun hHeld => ?_)
          · exact trivial
          clear hK K
          try simp only [Act.put, List.setIfInBounds_toArray, List.set_cons_zero, List.set_cons_succ]
          refine wpAnyH_done (by kernel_rfl) ?_ _
          have hF10 := (hF.drew.trans (Fr.of_at hA5 HDD.out.okp)).trans hF9
          rw [grownTo_succ] at hD9
          have HD9 := Lib.hid hD9
          have HK := Lib.hid (show gLen ((w8.setCell ⟨p, 2, none⟩ (.slice A8 ((grownTo D.count m).good.length + 1) c8)).cell? ⟨p, 2, none⟩) = n + m + 1 from by rw [World.cell?_setCell_same _ _ _ (show w8.cell? ⟨p, 2, none⟩ = some (.slice A0 (n + m) c0) from k2), HL2.out]; rfl)
          clear hD9 k2 k2f hb8 hp8 hown8 hg8 hat8 hF9 hrow5 hoG hGok hD5 hZ5 hA5
          generalize w8.setCell ⟨p, 2, none⟩ (.slice A8 ((grownTo D.count m).good.length + 1) c8) = w9 at HD9 HK hF10 ⊢
          go_wp2_with fail
          exact ⟨⟨m + 1, by omega, ⟨_, _, _, _, HD9.out⟩, hF10⟩, by rw [HK.out, HME.out]; omega⟩
        · go_simp
          refine (dempty_any (HDD.out) (HFR.out)).mono ?_
          rintro e w5 ⟨Z5, he5, hD5, hZ5, hA5⟩
          obtain ⟨AZ, cZ, hZe, _⟩ := hZ5.len
          rw [zeros_length] at hZe
          subst hZe
          subst he5
          obtain ⟨A0', c0', cs5, hG5, hoG, hGok, hrow5⟩ := hD5.good
          have HG5 := Lib.hid hG5
          clear hG5
          obtain ⟨_, _, e2, _⟩ := hD5.blk.cells
          have hz5 := hA5.size
          refine hK.out _ _ ?_ (fun hHeld => ?_)
          · exact trivial
          clear hK K
          try simp only [Act.put, List.setIfInBounds_toArray, List.set_cons_zero, List.set_cons_succ]
          refine carryP2 (i := 4) (j := 7) rfl rfl (by kernel_rfl) (by rfl) (by rfl) (fun K hK => ?_) (fun K hK => ?_)
          · go_simp
            refine hK.out _ _ ?_ (fun hHeld => ?_)
            · exact trivial
            clear hK K
            try simp only [Act.put, List.setIfInBounds_toArray, List.set_cons_zero, List.set_cons_succ]
            refine carryP (i := 7) rfl (by kernel_rfl) (by rfl) (fun K hK => ?_)
            go_simp
            refine hK.out _ _ ?_ (fun hHeld => ?_)
            · exact trivial
            clear hK K
            try simp only [Act.put, List.setIfInBounds_toArray, List.set_cons_zero, List.set_cons_succ]
            refine carryP (i := 8) rfl (by kernel_rfl) (by rfl) (fun K hK => ?_)
            refine wp_append_any _ (.tmp 35) (.tmp 38) _ rfl base 30 ib _ 1 24 Try.underlying106 bi0 bz0 bz1 bz2 rfl (by omega) (.slice A0 (n + m) c0) (grownTo D.count m).good.length _ (by rfl) (hoG.alloc _) (w5.heap.size + 1) (some ⟨w5.heap.size, 0, none⟩) 1 1 [.slice (some AZ) (grownTo D.count m).size cZ] (by rfl) (Reads.one _ _ _) (by intro u hu; rw [List.mem_singleton.1 hu]; rfl) (by rw [HL2.out]; unfold maxLen; omega) (by rw [HL2.out]; omega) (by have : w.heap.size ≤ w5.heap.size := Nat.le_trans hzr hz5; simp; omega) ?_
            intro v8 w8 hown8 hg8 hat8
            obtain ⟨hp8, hD9, hF9⟩ := grow_step hD5 hZ5 (fun k hk => HFR.out k (Nat.le_trans hz5 hk)) (by rw [HL2.out]; show n + m + 1 ≤ D.count.limit; rw [hml.out]; omega) HG5.out hoG hrow5 hGok (by decide) hown8 hg8 hat8
            have hb8 := hp8.trans hD5.blk
            have k2 : w8.cell? ⟨p, 2, none⟩ = some (.slice A0 (n + m) c0) := blk_cell hb8 2
            have k2f : w8.frozen? ⟨p, 2, none⟩ = false := blk_frozen hb8 2
            obtain ⟨A8, c8, rfl⟩ := own_slice hown8
            refine hK.out _ _ ?_ (fun hHeld => ?_)
            · exact trivial
            clear hK K
            try simp only [Act.put, List.setIfInBounds_toArray, List.set_cons_zero, List.set_cons_succ]
            refine takeP (i := 9) rfl (by kernel_rfl) (by kernel_rfl) (by kernel_rfl) (fun _ _ _ h => h) (by rfl) (by assumption) (v := ?_) ?_ ?_
            rotate_left
            · intro w' hSw
              try dsimp only at hSw
              go_simp
              try with_reducible rfl
            try simp only [Act.put, List.setIfInBounds_toArray, List.set_cons_zero, List.set_cons_succ]
            refine takeP (i := 10) rfl (by kernel_rfl) (by kernel_rfl) (by kernel_rfl) (fun _ _ _ h => h) (by rfl) (by assumption) (v := ?_) ?_ ?_
            rotate_left
            · intro w' hSw
              try dsimp only at hSw
              go_simp
              try with_reducible rfl
            try simp only [Act.put, List.setIfInBounds_toArray, List.set_cons_zero, List.set_cons_succ]
            refine carryP (i := 11) rfl (by kernel_rfl) (by rfl) (fun K hK => ?_)
            go_simp
            refine hK.out _ _ ?_ (fun hHeld => ?_)
            · exact trivial
            clear hK K
            try simp only [Act.put, List.setIfInBounds_toArray, List.set_cons_zero, List.set_cons_succ]
            refine wpAnyH_done (by kernel_rfl) ?_ _
            have hF10 := (hF.drew.trans (Fr.of_at hA5 HDD.out.okp)).trans hF9
            rw [grownTo_succ] at hD9
            have HD9 := Lib.hid hD9
            have HK := Lib.hid (show gLen ((w8.setCell ⟨p, 2, none⟩ (.slice A8 ((grownTo D.count m).good.length + 1) c8)).cell? ⟨p, 2, none⟩) = n + m + 1 from by rw [World.cell?_setCell_same _ _ _ (show w8.cell? ⟨p, 2, none⟩ = some (.slice A0 (n + m) c0) from k2), HL2.out]; rfl)
            clear hD9 k2 k2f hb8 hp8 hown8 hg8 hat8 hF9 hrow5 hoG hGok hD5 hZ5 hA5
            generalize w8.setCell ⟨p, 2, none⟩ (.slice A8 ((grownTo D.count m).good.length + 1) c8) = w9 at HD9 HK hF10 ⊢
            go_wp2_with fail
            exact ⟨⟨m + 1, by omega, ⟨_, _, _, _, HD9.out⟩, hF10⟩, by rw [HK.out, HME.out]; omega⟩
          · go_simp
            refine hK.out _ _ ?_ (fun hHeld => ?_)
            · exact trivial
            clear hK K
            try simp only [Act.put, List.setIfInBounds_toArray, List.set_cons_zero, List.set_cons_succ]
            refine carryP (i := 4) rfl (by kernel_rfl) (by rfl) (fun K hK => ?_)
            have e3 : (w5.alloc (.cells #[.slice (some AZ) (grownTo D.count m).size cZ] 30)).cell? ⟨p, 2, none⟩ = some (.slice A0 (n + m) c0) := (World.cell?_alloc_lt w5 _ ⟨p, 2, none⟩ hD5.blk.lt).trans e2
            go_simp
            refine hK.out _ _ ?_ (fun hHeld => ?_)
            · exact trivial
            clear hK K
            try simp only [Act.put, List.setIfInBounds_toArray, List.set_cons_zero, List.set_cons_succ]
            refine carryP (i := 8) rfl (by kernel_rfl) (by rfl) (fun K hK => ?_)
            refine wp_append_any _ (.tmp 35) (.tmp 38) _ rfl base 30 ib _ 1 24 Try.underlying106 bi0 bz0 bz1 bz2 rfl (by omega) (.slice A0 (n + m) c0) (grownTo D.count m).good.length _ (by rfl) (hoG.alloc _) (w5.heap.size + 1) (some ⟨w5.heap.size, 0, none⟩) 1 1 [.slice (some AZ) (grownTo D.count m).size cZ] (by rfl) (Reads.one _ _ _) (by intro u hu; rw [List.mem_singleton.1 hu]; rfl) (by rw [HL2.out]; unfold maxLen; omega) (by rw [HL2.out]; omega) (by have : w.heap.size ≤ w5.heap.size := Nat.le_trans hzr hz5; simp; omega) ?_
            intro v8 w8 hown8 hg8 hat8
            obtain ⟨hp8, hD9, hF9⟩ := grow_step hD5 hZ5 (fun k hk => HFR.out k (Nat.le_trans hz5 hk)) (by rw [HL2.out]; show n + m + 1 ≤ D.count.limit; rw [hml.out]; omega) HG5.out hoG hrow5 hGok (by decide) hown8 hg8 hat8
            have hb8 := hp8.trans hD5.blk
            have k2 : w8.cell? ⟨p, 2, none⟩ = some (.slice A0 (n + m) c0) := blk_cell hb8 2
            have k2f : w8.frozen? ⟨p, 2, none⟩ = false := blk_frozen hb8 2
            obtain ⟨A8, c8, rfl⟩ := own_slice hown8
            refine hK.out _ _ ?_ (fun hHeld => ?_)
            · exact trivial
            clear hK K
            try simp only [Act.put, List.setIfInBounds_toArray, List.set_cons_zero, List.set_cons_succ]
            refine takeP (i := 9) rfl (by kernel_rfl) (by kernel_rfl) (by kernel_rfl) (fun _ _ _ h => h) (by rfl) (by assumption) (v := ?_) ?_ ?_
            rotate_left
            · intro w' hSw
              try dsimp only at hSw
              go_simp
              try with_reducible rfl
            try simp only [Act.put, List.setIfInBounds_toArray, List.set_cons_zero, List.set_cons_succ]
            refine takeP (i := 10) rfl (by kernel_rfl) (by kernel_rfl) (by kernel_rfl) (fun _ _ _ h => h) (by rfl) (by assumption) (v := ?_) ?_ ?_
            rotate_left
            · intro w' hSw
              try dsimp only at hSw
              go_simp
              try with_reducible rfl
            try simp only [Act.put, List.setIfInBounds_toArray, List.set_cons_zero, List.set_cons_succ]
            refine carryP (i := 11) rfl (by kernel_rfl) (by rfl) (fun K hK => ?_)
            go_simp
            refine hK.out _ _ ?_ (fun hHeld => ?_)
            · exact trivial
            clear hK K
            try simp only [Act.put, List.setIfInBounds_toArray, List.set_cons_zero, List.set_cons_succ]
            refine wpAnyH_done (by kernel_rfl) ?_ _
            have hF10 := (hF.drew.trans (Fr.of_at hA5 HDD.out.okp)).trans hF9
            rw [grownTo_succ] at hD9
            have HD9 := Lib.hid hD9
            have HK := Lib.hid (show gLen ((w8.setCell ⟨p, 2, none⟩ (.slice A8 ((grownTo D.count m).good.length + 1) c8)).cell? ⟨p, 2, none⟩) = n + m + 1 from by rw [World.cell?_setCell_same _ _ _ (show w8.cell? ⟨p, 2, none⟩ = some (.slice A0 (n + m) c0) from k2), HL2.out]; rfl)
            clear hD9 k2 k2f hb8 hp8 hown8 hg8 hat8 hF9 hrow5 hoG hGok hD5 hZ5 hA5
            generalize w8.setCell ⟨p, 2, none⟩ (.slice A8 ((grownTo D.count m).good.length + 1) c8) = w9 at HD9 HK hF10 ⊢
            go_wp2_with fail
            exact ⟨⟨m + 1, by omega, ⟨_, _, _, _, HD9.out⟩, hF10⟩, by rw [HK.out, HME.out]; omega⟩
      · obtain rfl : NN = n + m := by omega
        have hend : Hid (D.count.grown (((n + m : Nat) : Int)).toNat = grownTo D.count m) := Lib.hid (by
          unfold Dk.grown grownTo
          rw [hnl.out, Int.toNat_natCast, show n + m - n = m by omega])
        go_wp2_with fail
        refine hlen.mono ?_
        rintro e w' ⟨rfl, rfl⟩
        clear hlen
        go_wp2_with fail
        go_ret
        exact .inr (.inr (.inr ⟨by rw [HN.out]; omega, by rw [HM.out]; omega, HT3.out, rfl, by rw [hend.out]; exact hD, hF⟩))

end Go.Proofs.Ythijobbhpbklmaa
