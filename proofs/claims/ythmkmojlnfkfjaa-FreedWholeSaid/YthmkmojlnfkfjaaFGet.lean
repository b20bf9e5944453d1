/- freed.Get. -/
import Derived.Test.YthmkmojlnfkfjaaFGetP
namespace Go.Proofs.Ythmkmojlnfkfjaa
open Go.RowKit
set_option linter.unusedVariables false
set_option linter.unusedSimpArgs false

/-- What Get gives. -/
def FGetR (b : List UInt8) (w : World) (e : Ending) (w' : World) : Prop :=
  Below w.heap.size w w' ∧ ((∃ ps next A c, FPage ps next b ∧ e = .returned (.tuple #[.slice A ps.length c, .int .u32 (next : Int), .int .i64 0]) ∧ w'.ownsRow w.heap.size 51 2 (.slice A ps.length c) ps.length (PCs ps)) ∨
    ((∀ ps next, ¬ FPage ps next b) ∧ e = .returned (.tuple #[.slice none 0 0, .int .u32 0, .int .i64 11])))
theorem FGetR.no {b : List UInt8} {w w' : World} (h : ∀ ps next, ¬ FPage ps next b) (hb : Below w.heap.size w w') : FGetR b w (.returned (.tuple #[.slice none 0 0, .int .u32 0, .int .i64 11])) w' := ⟨hb, .inr ⟨h, rfl⟩⟩
theorem info_pair : (Try.prog.info? 51).map (fun i => (i.zero, i.size, i.bytes)) = some (some (.agg #[.int .u64 0, .int .u32 0]), 2, 16) := by kernel_rfl

set_option maxRecDepth 100000 in
set_option maxHeartbeats 4000000 in
theorem fget_any (w : World) (B : Nat) (A : Option Addr) (n c : Nat) (l : List UInt8) (h : Sl w B A n c l) (hBw : B ≤ w.heap.size) (hn : n ≤ 140737488355328) :
    Calls Try.prog 17 #[.slice A n c] w (FGetR l w) := by
  obtain ⟨ip, pi0, pz0, pz1, pz2⟩ := info_parts info_pair
  have hlen := h.len
  subst hlen
  by_cases hS : ¬ (512 ≤ (l.length : Int) ∧ (l.length : Int) ≤ 4096)
  · go_enter Try.func17, Try.ntmps17
    go_wp2_with (first
      | (go_at_call 28; refine (fmay_no hS _).mono ?_; rintro e w' ⟨rfl, rfl⟩))
    go_ret3
    exact FGetR.no (fun ps next hp => hS ⟨hp.2.2.1.1, hp.2.2.1.2.1⟩) (Below.refl _ _)
  obtain ⟨hS1, hS2⟩ := Decidable.not_not.1 hS
  clear hS
  obtain ⟨r1, r2, r3⟩ := fRoom_bounds (size := l.length) (by omega) (by omega)
  obtain ⟨R, hR⟩ : ∃ R, fRoom l.length = R := ⟨_, rfl⟩
  have hroom := fun W => froom_any l.length (by omega) (by omega) W
  rw [hR] at r1 r2 r3 hroom
  have HR := Lib.hid hR
  clear hR
  obtain ⟨N, hN⟩ : ∃ N, rdN l = N := ⟨_, rfl⟩
  have hNl : N < 65536 := by rw [← hN]; exact rdN_lt l
  obtain ⟨X, hX⟩ : ∃ X, rdX l = X := ⟨_, rfl⟩
  have hXl : X < 4294967296 := by rw [← hX]; exact rdX_lt l
  obtain ⟨m, hm⟩ : ∃ m, min N R = m := ⟨_, rfl⟩
  have hm1 : m ≤ R := by omega
  go_enter Try.func17, Try.ntmps17
  go_wp2_with (first
    | (go_at_call 28; refine (fmay_yes hS1 hS2 _).mono ?_; rintro e w' ⟨rfl, rfl⟩)
    | (go_at_call 37; refine (new_r _ _ _ _ _ _ h hn).mono ?_; rintro e w1 ⟨g, rfl, hR1, hg, hb1⟩))
  have hR1' : IsR w1 g (l.drop 0) 0 := hR1
  refine (rnum_at hR1' 2 (sz := 2) (b := 2) rfl (by omega) (by omega) (by omega) (by omega)).mono ?_
  rintro r w2 ⟨rfl, hR2, hA2⟩
  have hb2 := hb1.trans (hA2.below hg hb1.size)
  clear hR1 hR1' hA2
  go_wp2_with fail
  refine (rnum_at hR2 2 (sz := 2) (b := 4) rfl (by omega) (by omega) (by omega) (by omega)).mono ?_
  rintro r w3 ⟨rfl, hR3, hA3⟩
  have hb3 := hb2.trans (hA3.below hg hb2.size)
  rw [show be ((l.drop 2).take 2) = N from hN]
  have hcN : IntKind.i64.wrap (N : Int) = (N : Int) := IntWalk.i64_in _ (by omega)
  have hcX : IntKind.u32.wrap (X : Int) = (X : Int) := IntWalk.u32_in _ (by omega)
  clear hR2 hA3 hb1
  go_wp2_with fail
  refine (rnum_at hR3 4 (sz := 4) (b := 8) rfl (by omega) (by omega) (by omega) (by omega)).mono ?_
  rintro r w4 ⟨rfl, hR4, hA4⟩
  have hb4 := hb3.trans (hA4.below hg hb3.size)
  rw [show be ((l.drop 4).take 4) = X from hX]
  clear hR3 hA4 hb2 hb3
  have hmn1 : min (N : Int) (R : Int) = (m : Int) := by omega
  have hmn2 : (if (R : Int) < (N : Int) then (R : Int) else (N : Int)) = (m : Int) := by split <;> omega
  have hmn3 : (if R < N then (R : Int) else (N : Int)) = (m : Int) := by split <;> omega
  have HM := Lib.hid hm
  have HN := Lib.hid hN
  have HX := Lib.hid hX
  have hgl := hR4.lt
  clear hm hN hX
  go_wp2_with (first
    | (go_at_call 30; refine (hroom _).mono ?_; rintro e w' ⟨rfl, rfl⟩))
  go_loopw [8, 31] (fun v i wr => ∃ (k : Nat) (Av : Option Addr) (cv : Nat), k ≤ m ∧ i = .int .i64 (k : Int) ∧ v = .slice Av k cv ∧ wr.ownsRow (g + 1) 51 2 (.slice Av k cv) k (PCs (rdPs l k)) ∧ IsR wr g (l.drop (8 + k * 12)) 0 ∧ Below w.heap.size w wr) (fun _ i _ => m - (intOf i).toNat)
  case atStart => exact ⟨0, none, 0, Nat.zero_le _, rfl, rfl, World.ownsRow_nil _ _ _ _, hR4, hb4⟩
  case round =>
    obtain ⟨k, Av, cv, hkm, rfl, rfl, hown, hRk, hbw⟩ := hrel
    clear hb4 hR4 hroom
    have hbs := hbw.size
    have hgr := hRk.lt
    by_cases hlt : k < m
    · obtain ⟨ok1, ok2⟩ := rdP_ok l k
      obtain ⟨T, hT⟩ : ∃ T, (rdP l k).1 = T := ⟨_, rfl⟩
      obtain ⟨Q, hQ⟩ : ∃ Q, (rdP l k).2 = Q := ⟨_, rfl⟩
      rw [hT] at ok1
      rw [hQ] at ok2
      have hcQ : IntKind.u32.wrap (Q : Int) = (Q : Int) := IntWalk.u32_in _ (by omega)
      have hcells : PCs (rdPs l (k + 1)) = PCs (rdPs l k) ++ [.int .u64 (T : Int), .int .u32 (Q : Int)] := by rw [rdPs_succ, PCs_snoc, hT, hQ]
      have HC := Lib.hid hcells
      clear hcells
      go_wp2_with fail
      refine (rnum_at hRk 8 (sz := 8) (b := 16 + k * 12) rfl (by omega) (by omega) (by omega) (by omega)).mono ?_
      rintro r w5 ⟨rfl, hR5, hA5⟩
      rw [show be ((l.drop (8 + k * 12)).take 8) = T from hT]
      have hown5 := own_at_r hown hA5 hRk (by decide)
      have hb5 := hbw.trans (hA5.below hg hbs)
      have HQ := Lib.hid hQ
      clear hT hQ
      go_wp2_with (first
        | (go_at_call 38; refine (rnum_at hR5 4 (sz := 4) (b := 8 + (k + 1) * 12) rfl (by omega) (by omega) (by omega) (by omega)).mono ?_; rintro r w6 ⟨rfl, hR6, hA6⟩; rw [show be ((l.drop (16 + k * 12)).take 4) = Q from HQ.out]; have hown6 := own_at_r hown5 hA6 hR5 (by decide); have hb6 := hb5.trans (hA6.below hg hb5.size); have hg6 := hR6.lt)
        | (at_builtin; refine wpList_append_any _ rfl (.tmp 35) (.tmp 41) _ rfl (g + 1) 51 ip _ 2 16 Try.underlying28 pi0 pz0 pz1 pz2 rfl (by omega) (.slice Av k cv) k _ rfl (hown6.alloc _) (w6.heap.size + 1) (some ⟨w6.heap.size, 0, none⟩) 1 1 [.int .u64 (T : Int), .int .u32 (Q : Int)] rfl (Reads.two _ _ _ _) (by simp [Value.oneCell']) (by unfold maxLen; omega) (by omega) (by simp; omega) ?_; intro v8 w8 hown8 hg8 hat8; obtain ⟨A8, c8, rfl⟩ := own_slice hown8))
      refine ⟨⟨k + 1, A8, c8, by omega, by go_num, rfl, by rw [HC.out]; exact hown8, ?_, ?_⟩, by simp [intOf]; omega⟩
      · exact IsR.grown_ (hR6.below ((Below.refl w6.heap.size w6).alloc (Nat.le_refl _) _) hg6) hg8 (fun k hk => own_base hown6 k hk)
      · exact (hb6.alloc hb6.size _).grown hg8 (by have := hb6.size; simp; omega) (fun k hk => by have := own_base hown6 k hk; omega)
    · obtain rfl : k = m := by omega
      have hps := rdPs_length l k
      have hprs := Prs.of_own hown
      have hput := fput_any wr _ Av k cv (rdPs l k) hprs (Nat.le_refl _) (rdPs_ok l k) (by omega) X hXl (l.length : Int)
      have honly : ∀ ps next, FPage ps next l → FRight (rdPs l k) (l.length : Int) ∧ fPut (rdPs l k) X l.length = l := fun ps next hp => by
        have := hp.only
        rw [HN.out, HR.out, HM.out, HX.out] at this
        exact ⟨this.2.2.1, this.2.2.2⟩
      have HON := Lib.hid honly
      have HPS := Lib.hid hps
      clear honly hps
      go_wp2_with fail
      refine hput.mono ?_
      rintro e w7 ⟨hb7, hcase⟩
      clear hput
      have hbz := hbw.trans (hb7.mono hbs)
      rcases hcase with ⟨hRt, q, rfl, hq, hrow⟩ | ⟨hno, rfl⟩
      · rw [Int.toNat_natCast] at hrow ⊢
        have hfl : (fPut (rdPs l k) X l.length).length = l.length := fPut_length _ _ _ (by rw [HPS.out]; omega)
        have hqs := hrow.slN hfl (by omega)
        have hls := h.below (hbz.mono hBw)
        have hown7 := own_below hown hb7 (Nat.le_refl _)
        have heqc := bytes_eq w7 _ _ _ _ _ _ _ _ _ _ hqs hls
        by_cases heq : fPut (rdPs l k) X l.length = l
        · rw [decide_eq_true heq] at heqc
          have hpg : FPage (rdPs l k) X l := ⟨rdPs_ok l k, hXl, hRt, heq⟩
          clear hrow hqs hls hfl heq
          go_wp2_with (first | (go_at_call 39; refine heqc.mono ?_; rintro r w' ⟨rfl, rfl⟩))
          go_ret3
          refine ⟨hbz, .inl ⟨rdPs l k, X, Av, cv, hpg, by rw [HPS.out]; rfl, ?_⟩⟩
          rw [HPS.out]
          exact own_weaken hown7 (by omega)
        · rw [decide_eq_false heq] at heqc
          have hno : ∀ ps next, ¬ FPage ps next l := fun ps next hp => heq (HON.out ps next hp).2
          clear hrow hqs hls hfl heq
          go_wp2_with (first | (go_at_call 39; refine heqc.mono ?_; rintro r w' ⟨rfl, rfl⟩))
          go_ret3
          exact FGetR.no hno hbz
      · have hno : ∀ ps next, ¬ FPage ps next l := fun ps next hp => hno (HON.out ps next hp).1
        go_wp2_with fail
        go_ret3
        exact FGetR.no hno hbz

end Go.Proofs.Ythmkmojlnfkfjaa
