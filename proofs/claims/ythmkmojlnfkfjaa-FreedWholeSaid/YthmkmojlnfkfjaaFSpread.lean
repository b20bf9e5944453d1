/- freed.Spread. -/
import Derived.Test.YthmkmojlnfkfjaaFGet
import Derived.Test.YthmkmojlnfkfjaaRegion
namespace Go.Proofs.Ythmkmojlnfkfjaa
open Go.RowKit
set_option linter.unusedVariables false
set_option linter.unusedSimpArgs false

theorem fclone_any (w : World) (B : Nat) (A : Option Addr) (n c : Nat) (ps : List FP) (h : Prs w B A n ps) (hn : n ≤ 1000000000000) :
    Calls Try.prog 29 #[.slice A n c] w fun e w' => ∃ v, e = .returned v ∧ w'.ownsRow w.heap.size 51 2 v n (PCs ps) ∧ Below w.heap.size w w' := by
  obtain ⟨ip, pi0, pz0, pz1, pz2⟩ := info_parts info_pair
  have q := fun (w : World) (a : Option Addr) (n c n' c' : Nat) => Lib.run_eql_slice_nil (P := Try.prog) w _ _ a n c n' c' Try.underlying28
  have h : Reads w B 2 A n (PCs ps) := h
  rcases A with _ | ad
  · have hn0 : n = 0 := by
      rcases Nat.eq_zero_or_pos n with h0 | h0
      · exact h0
      · obtain ⟨ad, e, _⟩ := h.2 h0
        cases e
    subst hn0
    have hl : PCs ps = [] := List.eq_nil_of_length_eq_zero (by rw [h.1])
    rw [hl]
    clear h hn
    go_enter Try.func29, Try.ntmps29
    go_wp2
    go_ret
    exact ⟨_, rfl, World.ownsRow_nil _ _ _ _, Below.refl _ _⟩
  · go_enter Try.func29, Try.ntmps29
    go_wp2_with (first | (at_builtin; refine wpList_append_any _ rfl (.tmp 5) (.tmp 6) _ rfl w.heap.size 51 ip _ 2 16 Try.underlying28 pi0 pz0 pz1 pz2 rfl (by omega) _ 0 [] rfl (World.ownsRow_made w #[] 0 (Nat.le_refl _) (by simp [maxLen]) rfl) B (some ad) n c _ rfl (h.alloc' _) (PCs_one ps) (by simp only [maxLen]; omega) (by omega) (by simp) ?_))
    intro v w1 hown hg hat
    go_wp2
    go_ret
    exact ⟨v, rfl, by simpa using hown, ((Below.refl _ _).alloc (Nat.le_refl _) _).grown hg (by simp) (fun k hk => by simp [Value.ownBlock] at hk; omega)⟩

/-- s[m:] of elements of any size. -/
theorem cut_lN {P : Program} (t e : TypeId) (kl : IntKind) {i : TypeInfo} (size : Nat) (ht : P.underlying t = some (.slice e)) (hi : P.info? e = some i) (hsz : i.size = size) (A : Option Addr) (n c m : Nat) (hm : m ≤ n) :
    ∃ A' : Option Addr, (∀ W : World, (Instr.slice t (.slice A n c) (some (.int kl (m : Int))) none none).run P W = .ok (.slice A' (n - m) (c - m)) W) ∧
      ∀ (w : World) (B : Nat) (xs : List Value), n ≤ c → Reads w B size A n xs → Reads w B size A' (n - m) (xs.drop (m * size)) := by
  refine ⟨if c = m then A else A.map (·.add (m * size)), fun W => ?_, fun w B l hc h => h.cut hm hc⟩
  have hel : P.elem t = e := by simp [Program.elem, ht]
  have hu : P.underlying t = some (.slice (P.elem t)) := by rw [hel]; exact ht
  rw [run_slice_l W t A n c hu kl (m : Int) (Int.natCast_nonneg _) (by omega), hel]
  simp [sizeOf, typeInfo, hi, hsz, sliced, Result.andThen]
/-- s[:m:m] of elements of any size. -/
theorem cut_hmN {P : Program} (t e : TypeId) (kh km : IntKind) {i : TypeInfo} (size : Nat) (ht : P.underlying t = some (.slice e)) (hi : P.info? e = some i) (hsz : i.size = size) (A : Option Addr) (n c m : Nat) (hm : m ≤ n) (hc : n ≤ c) :
    ∃ A' : Option Addr, (∀ W : World, (Instr.slice t (.slice A n c) none (some (.int kh (m : Int))) (some (.int km (m : Int)))).run P W = .ok (.slice A' m m) W) ∧
      ∀ (w : World) (B : Nat) (xs : List Value), Reads w B size A n xs → Reads w B size A' m (xs.take (m * size)) := by
  refine ⟨if m = 0 then A else A.map (·.add (0 * size)), fun W => ?_, fun w B l h => ⟨?_, fun hn => ?_⟩⟩
  · have hel : P.elem t = e := by simp [Program.elem, ht]
    have hu : P.underlying t = some (.slice (P.elem t)) := by rw [hel]; exact ht
    rw [run_slice_hm W t A n c hu kh km (m : Int) (m : Int) (Int.natCast_nonneg _) (Int.le_refl _) (by omega), hel]
    simp [sizeOf, typeInfo, hi, hsz, sliced, Result.andThen]
  · have := h.1
    have h2 : m * size ≤ n * size := Nat.mul_le_mul_right _ hm
    rw [List.length_take]
    omega
  · obtain ⟨ad, rfl, hb, hcell⟩ := h.2 (by omega)
    rw [if_neg (by omega)]
    refine ⟨ad.add (0 * size), rfl, by rw [block_of_add]; exact hb, fun j u hu => ?_⟩
    rw [add_of_add, Nat.zero_mul, Nat.zero_add]
    refine hcell j u ?_
    rw [List.getElem?_take] at hu
    split at hu
    · exact hu
    · cases hu

/-- Rows of so many pairs each, as they lie behind cs. -/
def FRows (w : World) (B : Nat) (cs : List Value) (ps : List FP) (R k : Nat) : Prop :=
  cs.length = k ∧ ∀ i, i < k → ∃ Ai ni, cs[i]? = some (.slice Ai ni ni) ∧ Prs w B Ai ni ((ps.drop (i * R)).take R)
theorem FRows.below {w w' : World} {B : Nat} {cs : List Value} {ps : List FP} {R k : Nat} (h : FRows w B cs ps R k) (hb : Below B w w') : FRows w' B cs ps R k :=
  ⟨h.1, fun i hi => by obtain ⟨Ai, ni, h1, h2⟩ := h.2 i hi; exact ⟨Ai, ni, h1, h2.below hb⟩⟩
theorem FRows.more {w : World} {B B' : Nat} {cs : List Value} {ps : List FP} {R k : Nat} (h : FRows w B cs ps R k) (hB : B ≤ B') : FRows w B' cs ps R k :=
  ⟨h.1, fun i hi => by obtain ⟨Ai, ni, h1, h2⟩ := h.2 i hi; exact ⟨Ai, ni, h1, h2.more hB⟩⟩
theorem FRows.snoc {w : World} {B : Nat} {cs : List Value} {ps : List FP} {R k : Nat} (h : FRows w B cs ps R k) {A : Option Addr} {n : Nat} (hp : Prs w B A n ((ps.drop (k * R)).take R)) : FRows w B (cs ++ [.slice A n n]) ps R (k + 1) := by
  have hl := h.1
  refine ⟨by simp [hl], fun i hi => ?_⟩
  by_cases hik : i < k
  · obtain ⟨Ai, ni, h1, h2⟩ := h.2 i hik
    exact ⟨Ai, ni, by rw [List.getElem?_append_left (by omega)]; exact h1, h2⟩
  · obtain rfl : i = k := by omega
    exact ⟨A, n, by rw [← hl]; simp, hp⟩
/-- What Spread gives. -/
def FSpreadP (ps : List FP) (P S : Int) (w : World) (e : Ending) (w' : World) : Prop :=
  Below w.heap.size w w' ∧ ((¬ (512 ≤ S ∧ S ≤ 4096 ∧ 0 ≤ P ∧ P ≤ 65536) ∧ e = .returned (.tuple #[.slice none 0 0, .int .i64 1])) ∨
    ((512 ≤ S ∧ S ≤ 4096 ∧ 0 ≤ P ∧ P ≤ 65536) ∧ P < fMany ps.length S ∧ e = .returned (.tuple #[.slice none 0 0, .int .i64 21])) ∨
    ((512 ≤ S ∧ S ≤ 4096 ∧ 0 ≤ P ∧ P ≤ 65536) ∧ fMany ps.length S ≤ P ∧ ∃ Av cv cs, e = .returned (.tuple #[.slice Av P.toNat cv, .int .i64 0]) ∧ w'.ownsRow w.heap.size 28 1 (.slice Av P.toNat cv) P.toNat cs ∧ FRows w' w'.heap.size cs ps (fRoom S.toNat) P.toNat))
theorem info_prs : (Try.prog.info? 28).map (fun i => (i.zero, i.size, i.bytes)) = some (some (.slice none 0 0), 1, 24) := by kernel_rfl

set_option maxRecDepth 100000 in
set_option maxHeartbeats 4000000 in
theorem fspread_any (w : World) (B : Nat) (A : Option Addr) (n c : Nat) (ps : List FP) (h : Prs w B A n ps) (hBw : B ≤ w.heap.size) (hn : n ≤ 1000000000000) (P S : Int) :
    Calls Try.prog 10 #[.slice A n c, .int .i64 P, .int .i64 S] w (FSpreadP ps P S w) := by
  obtain ⟨ip, pi0, pz0, pz1, pz2⟩ := info_parts info_pair
  obtain ⟨is, si0, sz0, sz1, sz2⟩ := info_parts info_prs
  have hlen := h.len
  subst hlen
  by_cases hS : ¬ (512 ≤ S ∧ S ≤ 4096)
  · go_enter Try.func10, Try.ntmps10
    go_wp2_with (first
      | (go_at_call 28; refine (fmay_no hS _).mono ?_; rintro e w' ⟨rfl, rfl⟩))
    go_ret2
    exact ⟨Below.refl _ _, .inl ⟨fun hh => hS ⟨hh.1, hh.2.1⟩, rfl⟩⟩
  obtain ⟨hS1, hS2⟩ := Decidable.not_not.1 hS
  clear hS
  by_cases hP1 : P < 0
  · go_enter Try.func10, Try.ntmps10
    go_wp2_with (first
      | (go_at_call 28; refine (fmay_yes hS1 hS2 _).mono ?_; rintro e w' ⟨rfl, rfl⟩))
    go_ret2
    exact ⟨Below.refl _ _, .inl ⟨fun hh => by omega, rfl⟩⟩
  by_cases hP2 : 65536 < P
  · go_enter Try.func10, Try.ntmps10
    go_wp2_with (first
      | (go_at_call 28; refine (fmay_yes hS1 hS2 _).mono ?_; rintro e w' ⟨rfl, rfl⟩))
    go_ret2
    exact ⟨Below.refl _ _, .inl ⟨fun hh => by omega, rfl⟩⟩
  have hin : 512 ≤ S ∧ S ≤ 4096 ∧ 0 ≤ P ∧ P ≤ 65536 := ⟨hS1, hS2, by omega, by omega⟩
  obtain ⟨pp, rfl⟩ := Int.eq_ofNat_of_zero_le (show 0 ≤ P by omega)
  obtain ⟨size, rfl⟩ := Int.eq_ofNat_of_zero_le (show 0 ≤ S by omega)
  obtain ⟨Q, hQ⟩ : ∃ Q, fMany (ps.length : Int) (size : Int) = Q := ⟨_, rfl⟩
  have hmany := fun W => fmany_any W (ps.length : Int) (size : Int) (by omega) (by omega)
  rw [hQ] at hmany
  by_cases hq : (pp : Int) < Q
  · have HIN := Lib.hid hin
    have HQ := Lib.hid hQ
    clear hin hQ
    go_enter Try.func10, Try.ntmps10
    go_wp2_with (first
      | (go_at_call 28; refine (fmay_yes hS1 hS2 _).mono ?_; rintro e w' ⟨rfl, rfl⟩)
      | (go_at_call 26; refine (hmany _).mono ?_; rintro e w' ⟨rfl, rfl⟩))
    go_ret2
    exact ⟨Below.refl _ _, .inr (.inl ⟨HIN.out, by rw [HQ.out]; exact hq, rfl⟩)⟩
  obtain ⟨r1, r2, r3⟩ := fRoom_bounds (size := size) (by omega) (by omega)
  obtain ⟨R, hR⟩ : ∃ R, fRoom size = R := ⟨_, rfl⟩
  have hroom := fun W => froom_any size (by omega) (by omega) W
  rw [hR] at r1 r2 r3 hroom
  have HR := Lib.hid hR
  have HIN := Lib.hid hin
  have HQ := Lib.hid hQ
  clear hR hin hQ
  go_enter Try.func10, Try.ntmps10
  go_wp2_with (first
    | (go_at_call 28; refine (fmay_yes hS1 hS2 _).mono ?_; rintro e w' ⟨rfl, rfl⟩)
    | (go_at_call 26; refine (hmany _).mono ?_; rintro e w' ⟨rfl, rfl⟩)
    | (go_at_call 29; refine (fclone_any _ _ _ _ _ _ h hn).mono ?_; rintro e w1 ⟨v1, rfl, hown1, hb1⟩; obtain ⟨A1, c1, rfl⟩ := own_slice hown1))
  have hcap1 : ps.length ≤ c1 := by
    rcases hown1.2 with ⟨hv, h0⟩ | ⟨_, _, _, hv, _, _, hc, _⟩
    · omega
    · cases hv; exact hc
  have hp1 : Prs w1 w1.heap.size A1 ps.length ps := Prs.of_own hown1
  have hs1 := hb1.size
  clear hown1 hmany h
  go_loopw [0, 8, 32] (fun s0 v i wr => ∃ (k : Nat) (Av : Option Addr) (cv : Nat) (cs : List Value) (A' : Option Addr) (n' c' : Nat), k ≤ pp ∧ i = .int .i64 (k : Int) ∧ v = .slice Av k cv ∧ s0 = .slice A' n' c' ∧ Prs w1 w1.heap.size A' n' (ps.drop (k * R)) ∧ n' ≤ c' ∧ wr.ownsRow w1.heap.size 28 1 (.slice Av k cv) k cs ∧ FRows w1 w1.heap.size cs ps R k ∧ Below w1.heap.size w1 wr) (fun _ _ i _ => pp - (intOf i).toNat)
  case atStart => exact ⟨0, none, 0, [], A1, ps.length, c1, Nat.zero_le _, rfl, rfl, rfl, by simpa using hp1, hcap1, World.ownsRow_nil _ _ _ _, ⟨rfl, fun i hi => by omega⟩, Below.refl _ _⟩
  case round =>
    obtain ⟨k, Av, cv, cs, A', n', c', hkp, rfl, rfl, rfl, hp', hnc, hown, hrows, hbw⟩ := hrel
    clear hp1 hcap1
    have hbs := hbw.size
    by_cases hlt : k < pp
    · obtain ⟨m, hm⟩ : ∃ m, min R n' = m := ⟨_, rfl⟩
      have hmn1 : min (R : Int) (n' : Int) = (m : Int) := by omega
      have hmn2 : (if (n' : Int) < (R : Int) then (n' : Int) else (R : Int)) = (m : Int) := by split <;> omega
      have hmn3 : (if n' < R then (n' : Int) else (R : Int)) = (m : Int) := by split <;> omega
      obtain ⟨Ah, hch, hrh⟩ := cut_hmN (P := Try.prog) 28 51 .i64 .i64 2 Try.underlying28 pi0 pz1 A' n' c' m (by omega) hnc
      obtain ⟨Al, hcl, hrl⟩ := cut_lN (P := Try.prog) 28 51 .i64 2 Try.underlying28 pi0 pz1 A' n' c' m (by omega)
      have hln := hp'.len
      rw [List.length_drop] at hln
      have hpl : Prs w1 w1.heap.size Al (n' - m) (ps.drop ((k + 1) * R)) := by
        have := hrl w1 _ _ hnc hp'
        rw [PCs_drop, List.drop_drop] at this
        rcases Nat.lt_or_ge R n' with h1 | h1
        · rw [show k * R + m = (k + 1) * R by rw [Nat.add_mul]; omega] at this
          exact this
        · have e1 : ps.drop (k * R + m) = [] := List.drop_of_length_le (by omega)
          have e2 : ps.drop ((k + 1) * R) = [] := List.drop_of_length_le (by rw [Nat.add_mul]; omega)
          rw [e1] at this
          rw [e2]
          exact this
      have hph : Prs w1 w1.heap.size Ah m ((ps.drop (k * R)).take R) := by
        have := hrh w1 _ _ hp'
        rw [PCs_take] at this
        rcases Nat.lt_or_ge R n' with h1 | h1
        · rw [show m = R by omega] at this ⊢
          exact this
        · have e1 : (ps.drop (k * R)).take m = ps.drop (k * R) := List.take_of_length_le (by rw [List.length_drop]; omega)
          have e2 : (ps.drop (k * R)).take R = ps.drop (k * R) := List.take_of_length_le (by rw [List.length_drop]; omega)
          rw [e1] at this
          rw [e2]
          exact this
      have HA := Lib.hid hpl
      have HB := Lib.hid (hrows.snoc hph)
      have hmm : m ≤ n' := by omega
      clear hpl hph hrh hrl hrows hp' hm hln
      go_wp2_with (first
        | (go_at_call 30; refine (hroom _).mono ?_; rintro e w' ⟨rfl, rfl⟩))
      refine wp_region_held_drew (S := (fun _ => True)) (by kernel_rfl) ?_ (fun hHeld => ?_)
      · exact trivial
      refine takeP (i := 0) rfl (by kernel_rfl) (by kernel_rfl) (by kernel_rfl) (fun _ _ _ h => h) (by rfl) (by assumption) (v := ?_) ?_ ?_
      rotate_left
      · intro w' hSw
        try dsimp only at hSw
        go_simp
        try with_reducible rfl
      try simp only [Act.put, List.setIfInBounds_toArray, List.set_cons_zero, List.set_cons_succ]
      refine takeP (i := 1) rfl (by kernel_rfl) (by kernel_rfl) (by kernel_rfl) (fun _ _ _ h => h) (by rfl) (by assumption) (v := ?_) ?_ ?_
      rotate_left
      · intro w' hSw
        try dsimp only at hSw
        go_simp
        try with_reducible rfl
      try simp only [Act.put, List.setIfInBounds_toArray, List.set_cons_zero, List.set_cons_succ]
      refine takeP (i := 2) rfl (by kernel_rfl) (by kernel_rfl) (by kernel_rfl) (fun _ _ _ h => h) (by rfl) (by assumption) (v := ?_) ?_ ?_
      rotate_left
      · intro w' hSw
        try dsimp only at hSw
        go_simp
        try with_reducible rfl
      try simp only [Act.put, List.setIfInBounds_toArray, List.set_cons_zero, List.set_cons_succ]
      refine takeP (i := 3) rfl (by kernel_rfl) (by kernel_rfl) (by kernel_rfl) (fun _ _ _ h => h) (by rfl) (by assumption) (v := ?_) ?_ ?_
      rotate_left
      · intro w' hSw
        try dsimp only at hSw
        go_simp
        try with_reducible rfl
      try simp only [Act.put, List.setIfInBounds_toArray, List.set_cons_zero, List.set_cons_succ]
      refine takeP (i := 4) rfl (by kernel_rfl) (by kernel_rfl) (by kernel_rfl) (fun _ _ _ h => h) (by rfl) (by assumption) (v := ?_) ?_ ?_
      rotate_left
      · intro w' hSw
        try dsimp only at hSw
        go_simp
        try with_reducible rfl
      try simp only [Act.put, List.setIfInBounds_toArray, List.set_cons_zero, List.set_cons_succ]
      refine takeP (i := 7) rfl (by kernel_rfl) (by kernel_rfl) (by kernel_rfl) (fun _ _ _ h => h) (by rfl) (by assumption) (v := ?_) ?_ ?_
      rotate_left
      · intro w' hSw
        try dsimp only at hSw
        go_simp
        try with_reducible rfl
      try simp only [Act.put, List.setIfInBounds_toArray, List.set_cons_zero, List.set_cons_succ]
      refine takeP (i := 8) rfl (by kernel_rfl) (by kernel_rfl) (by kernel_rfl) (fun _ _ _ h => h) (by rfl) (by assumption) (v := ?_) ?_ ?_
      rotate_left
      · intro w' hSw
        try dsimp only at hSw
        go_simp
        try with_reducible rfl
      try simp only [Act.put, List.setIfInBounds_toArray, List.set_cons_zero, List.set_cons_succ]
      refine takeP (i := 9) rfl (by kernel_rfl) (by kernel_rfl) (by kernel_rfl) (fun _ _ _ h => h) (by rfl) (by assumption) (v := ?_) ?_ ?_
      rotate_left
      · intro w' hSw
        try dsimp only at hSw
        go_simp
        try with_reducible rfl
      try simp only [Act.put, List.setIfInBounds_toArray, List.set_cons_zero, List.set_cons_succ]
      refine carryP (i := 5) rfl (by kernel_rfl) (by rfl) (fun K hK => ?_)
      go_simp
      have hown5 := hown.drew.alloc (.cells #[.slice Ah m m] 28)
      refine hK.out _ _ ?_ (fun hHeld => ?_)
      · exact trivial
      clear hK K
      try simp only [Act.put, List.setIfInBounds_toArray, List.set_cons_zero, List.set_cons_succ]
      refine carryP (i := 6) rfl (by kernel_rfl) (by rfl) (fun K hK => ?_)
      refine wp_append_any _ (.tmp 39) (.tmp 44) _ rfl w1.heap.size 28 is _ 1 24 Try.underlying24 si0 sz0 sz1 sz2 rfl (by omega) (.slice Av k cv) k cs (by rfl) hown5 (wr.heap.size + 1) (some ⟨wr.heap.size, 0, none⟩) 1 1 [.slice Ah m m] (by rfl) (Reads.one _ _ _) (by simp [Value.oneCell']) (by unfold maxLen; omega) (by omega) (by simp; omega) ?_
      intro v8 w8 hown8 hg8 hat8
      obtain ⟨A8, c8, rfl⟩ := own_slice hown8
      refine hK.out _ _ ?_ (fun hHeld => ?_)
      · exact trivial
      clear hK K
      try simp only [Act.put, List.setIfInBounds_toArray, List.set_cons_zero, List.set_cons_succ]
      refine takeP (i := 10) rfl (by kernel_rfl) (by kernel_rfl) (by kernel_rfl) (fun _ _ _ h => h) (by rfl) (by assumption) (v := ?_) ?_ ?_
      rotate_left
      · intro w' hSw
        try dsimp only at hSw
        go_simp
        try with_reducible rfl
      try simp only [Act.put, List.setIfInBounds_toArray, List.set_cons_zero, List.set_cons_succ]
      refine takeP (i := 11) rfl (by kernel_rfl) (by kernel_rfl) (by kernel_rfl) (fun _ _ _ h => h) (by rfl) (by assumption) (v := ?_) ?_ ?_
      rotate_left
      · intro w' hSw
        try dsimp only at hSw
        go_simp
        try with_reducible rfl
      try simp only [Act.put, List.setIfInBounds_toArray, List.set_cons_zero, List.set_cons_succ]
      refine wpAnyH_done (by kernel_rfl) ?_ _
      go_wp2_with fail
      refine ⟨⟨k + 1, A8, c8, _, Al, n' - m, c' - m, by omega, by go_num, rfl, rfl, HA.out, by omega, hown8, HB.out, ?_⟩, by simp [intOf]; omega⟩
      exact ((hbw.drew).alloc hbs _).grown hg8 (by simp; omega) (fun k hk => own_base hown k hk)
    · obtain rfl : k = pp := by omega
      clear hp'
      go_wp2_with fail
      go_ret2
      refine ⟨hb1.trans (hbw.mono hs1), .inr (.inr ⟨HIN.out, by rw [HQ.out]; omega, Av, cv, cs, rfl, own_weaken hown hs1, ?_⟩)⟩
      rw [Int.toNat_natCast, Int.toNat_natCast, HR.out]
      exact (hrows.below hbw).more hbs

end Go.Proofs.Ythmkmojlnfkfjaa
