/- The reference's Get (layer 10). -/
import Derived.Test.YthmkmojlnfkfjaaFRefP
namespace Go.Proofs.Ythmkmojlnfkfjaa
open Go.RowKit
set_option linter.unusedVariables false
set_option linter.unusedSimpArgs false

theorem refread_k (w : World) (s : ByteArray) (l : List UInt8) (S : Int) (hs : Hid (s = st l)) (h1 : 1 ≤ S) (h8 : S ≤ 8) (h : S ≤ l.length) (hl : l.length ≤ 140737488355328) :
    Calls Try.prog 51 #[.agg #[.string s, .int .i64 0], .int .i64 S] w fun e w' => e = .returned (.tuple #[.agg #[.string (st (l.drop S.toNat)), .int .i64 0], .int .u64 (be (l.take S.toNat) : Nat)]) ∧ Below w.heap.size w w' := by
  rw [hs.out]
  obtain ⟨sz, rfl⟩ := Int.eq_ofNat_of_zero_le (show 0 ≤ S by omega)
  exact refread_ok w l sz (by omega) (by omega) (by omega) hl

/-- num: a number that stands somewhere. -/
theorem rnumat_any (w : World) (s : ByteArray) (l : List UInt8) (hs : Hid (s = st l)) (p z : Nat) (h1 : 1 ≤ z) (h8 : z ≤ 8) (h : p + z ≤ l.length) (hl : l.length ≤ 140737488355328) :
    Calls Try.prog 40 #[.string s, .int .i64 (p : Int), .int .i64 (z : Int)] w fun e w' => e = .returned (.int .u64 (be ((l.drop p).take z) : Nat)) ∧ Below w.heap.size w w' := by
  have hs := hs.out
  have hsz : s.size = l.length := by rw [hs, st_size]
  have hn0 : (0 : Int) ≤ (p : Int) := by omega
  have hn1 : (p : Int) ≤ (s.size : Int) := by omega
  have hsm : s.size ≤ 140737488355328 := by omega
  have e1 : s.extract p s.size = st (l.drop p) := by rw [hsz, hs, st_extract, List.take_of_length_le (Nat.le_refl _)]
  have E1 := Lib.hid e1
  clear hs hsz e1
  go_enter Try.func40, Try.ntmps40
  go_wp2_with fail
  refine (refread_k _ _ (l.drop p) _ E1 (by omega) (by omega) (by rw [List.length_drop]; omega) (by rw [List.length_drop]; omega)).mono ?_
  rintro r w1 ⟨rfl, hb1⟩
  rw [Int.toNat_natCast]
  go_wp2_with fail
  go_ret
  exact ⟨rfl, hb1.alloc hb1.size _⟩
theorem rnumat_n (w : World) (s : ByteArray) (l : List UInt8) (hs : Hid (s = st l)) (p z : Int) (q : Nat) (hq : p = (q : Int)) (h1 : 1 ≤ z) (h8 : z ≤ 8) (h : p + z ≤ l.length) (hl : l.length ≤ 140737488355328) :
    Calls Try.prog 40 #[.string s, .int .i64 p, .int .i64 z] w fun e w' => e = .returned (.int .u64 (be ((l.drop q).take z.toNat) : Nat)) ∧ Below w.heap.size w w' := by
  subst hq
  obtain ⟨y, rfl⟩ := Int.eq_ofNat_of_zero_le (show 0 ≤ z by omega)
  exact rnumat_any w s l hs q y (by omega) (by omega) (by omega) hl

/-- What the reference's Get gives. -/
def RGetP (b : List UInt8) (w : World) (e : Ending) (w' : World) : Prop :=
  Below w.heap.size w w' ∧ ((∃ ps next A c, FPage ps next b ∧ e = .returned (.tuple #[.slice A ps.length c, .int .u32 (next : Int), .int .i64 0]) ∧ w'.ownsRow w.heap.size 74 2 (.slice A ps.length c) ps.length (PCs ps)) ∨
    ((∀ ps next, ¬ FPage ps next b) ∧ e = .returned (.tuple #[.slice none 0 0, .int .u32 0, .int .i64 11])))
theorem RGetP.no {b : List UInt8} {w w' : World} (h : ∀ ps next, ¬ FPage ps next b) (hb : Below w.heap.size w w') : RGetP b w (.returned (.tuple #[.slice none 0 0, .int .u32 0, .int .i64 11])) w' := ⟨hb, .inr ⟨h, rfl⟩⟩

set_option maxRecDepth 100000 in
set_option maxHeartbeats 4000000 in
theorem rfget_any (w : World) (b : List UInt8) (hbl : b.length ≤ 140737488355328) :
    Calls Try.prog 18 #[.string (st b)] w (RGetP b w) := by
  obtain ⟨ip, pi0, pz0, pz1, pz2⟩ := info_parts info_refp
  obtain ⟨s, hs⟩ : ∃ s, st b = s := ⟨_, rfl⟩
  have hsz : s.size = b.length := by rw [← hs, st_size]
  rw [hs]
  have HS := Lib.hid hs.symm
  clear hs
  by_cases c1 : b.length < 512
  · have d1 : decide (b.length < 512) = true := decide_eq_true c1
    have hno : Hid (∀ ps next, ¬ FPage ps next b) := Lib.hid fun ps next hp => by have := hp.2.2.1.1; omega
    go_enter Try.func18, Try.ntmps18
    go_wp2_with fail
    go_ret3
    exact RGetP.no hno.out (Below.refl _ _)
  have d1 : decide (b.length < 512) = false := decide_eq_false c1
  by_cases c2 : 4096 < b.length
  · have d2 : decide (4096 < b.length) = true := decide_eq_true c2
    have hno : Hid (∀ ps next, ¬ FPage ps next b) := Lib.hid fun ps next hp => by have := hp.2.2.1.2.1; omega
    go_enter Try.func18, Try.ntmps18
    go_wp2_with fail
    go_ret3
    exact RGetP.no hno.out (Below.refl _ _)
  have d2 : decide (4096 < b.length) = false := decide_eq_false c2
  obtain ⟨r1, r2, r3⟩ := fRoom_bounds (size := b.length) (by omega) (by omega)
  obtain ⟨N, hN⟩ : ∃ N, rdN b = N := ⟨_, rfl⟩
  obtain ⟨R, hR⟩ : ∃ R, fRoom b.length = R := ⟨_, rfl⟩
  have hNl := rdN_lt b
  have hroom := fun W => rroom_any b.length (by omega) (by omega) W
  rw [hR] at r1 r2 r3 hroom
  rw [hN] at hNl
  have HR := Lib.hid hR
  have HN := Lib.hid hN
  obtain ⟨L, hL⟩ : ∃ L, b.length = L := ⟨_, rfl⟩
  have HL := Lib.hid hL
  rw [hL] at c1 c2 d1 d2 r3 hroom hsz hbl
  clear hR hN hL
  go_enter Try.func18, Try.ntmps18
  go_wp2_with fail
  refine (rnumat_n _ _ b HS _ _ 2 rfl (by omega) (by omega) (by have := HL.out; omega) (by have := HL.out; omega)).mono ?_
  rintro r w1 ⟨rfl, hb1⟩
  rw [show be ((b.drop 2).take (Int.toNat 2)) = N from HN.out]
  by_cases hgt : R < N
  · have d3 : decide (R < N) = true := decide_eq_true hgt
    have hno : Hid (∀ ps next, ¬ FPage ps next b) := Lib.hid fun ps next hp => by
      have h1 := hp.reads.1
      have h2 := hp.2.2.1.2.2.1
      rw [Int.toNat_natCast, HR.out] at h2
      rw [HN.out] at h1
      omega
    go_wp2_with (first
      | (go_at_call 31; refine (hroom _).mono ?_; rintro e w' ⟨rfl, rfl⟩))
    go_ret3
    exact RGetP.no hno.out hb1
  have d3 : decide (R < N) = false := decide_eq_false hgt
  go_wp2_with fail
  refine (hroom _).mono ?_
  rintro e w' ⟨rfl, rfl⟩
  clear hroom
  go_wp2_with fail
  go_loopw [6, 7] (fun v i wr => ∃ (k : Nat) (Av : Option Addr) (cv : Nat), k ≤ N ∧ i = .int .i64 (k : Int) ∧ v = .slice Av k cv ∧ wr.ownsRow w.heap.size 74 2 (.slice Av k cv) k (PCs (rdPs b k)) ∧ Below w.heap.size w wr) (fun _ i _ => N - (intOf i).toNat)
  case atStart => exact ⟨0, none, 0, Nat.zero_le _, rfl, rfl, World.ownsRow_nil _ _ _ _, hb1⟩
  case round =>
    obtain ⟨k, Av, cv, hk, rfl, rfl, hown, hbw⟩ := hrel
    clear hb1
    have hbs := hbw.size
    by_cases hlt : k < N
    · have hLk : 8 + k * 12 + 12 ≤ L := by omega
      go_wp2_with fail
      refine (rnumat_n _ _ b HS _ _ (8 + k * 12) (by omega) (by omega) (by omega) (by have := HL.out; omega) (by have := HL.out; omega)).mono ?_
      rintro r w2 ⟨rfl, hb2'⟩
      obtain ⟨x1, hx1⟩ : ∃ x1, be ((b.drop (8 + k * 12)).take (Int.toNat 8)) = x1 := ⟨_, rfl⟩
      rw [hx1]
      have HX1 := Lib.hid hx1
      have hx1l : x1 < 18446744073709551616 := by rw [← hx1]; exact be_take_lt _ 8
      have hown2 := own_below hown hb2' (Nat.le_refl _)
      have hb2 := hbw.trans (hb2'.mono hbs)
      have hbs2 := hb2.size
      clear hx1 hown hb2'
      go_wp2_with fail
      refine (rnumat_n _ _ b HS _ _ (16 + k * 12) (by omega) (by omega) (by omega) (by have := HL.out; omega) (by have := HL.out; omega)).mono ?_
      rintro r w3 ⟨rfl, hb3'⟩
      obtain ⟨x2, hx2⟩ : ∃ x2, be ((b.drop (16 + k * 12)).take (Int.toNat 4)) = x2 := ⟨_, rfl⟩
      rw [hx2]
      have HX2 := Lib.hid hx2
      have hx2l : x2 < 4294967296 := by rw [← hx2]; exact be_take_lt _ 4
      have hown3 := own_below hown2 hb3' (Nat.le_refl _)
      have hb3 := hb2.trans (hb3'.mono hbs2)
      have hbs3 := hb3.size
      have hcw : IntKind.u32.wrap (x2 : Int) = (x2 : Int) := IntWalk.u32_in _ (by omega)
      have hcm : (x2 : Int) % 4294967296 = (x2 : Int) := by omega
      have hcells : PCs (rdPs b (k + 1)) = PCs (rdPs b k) ++ [.int .u64 (x1 : Int), .int .u32 (x2 : Int)] := by rw [rdPs_succ, PCs_snoc]; unfold rdP; rw [← HX1.out, ← HX2.out]; rfl
      have HC := Lib.hid hcells
      clear hx2 hown2 hb3' hcells
      go_wp2_with (first
        | (at_builtin; refine wpList_append_any _ rfl (.tmp 32) (.tmp 45) _ rfl w.heap.size 74 ip _ 2 16 Try.underlying22 pi0 pz0 pz1 pz2 rfl (by omega) (.slice Av k cv) k _ rfl (hown3.alloc _) (w3.heap.size + 1) (some ⟨w3.heap.size, 0, none⟩) 1 1 [.int .u64 (x1 : Int), .int .u32 (x2 : Int)] rfl (Reads.two _ _ _ _) (by simp [Value.oneCell']) (by unfold maxLen; omega) (by omega) (by simp; omega) ?_; intro v8 w8 hown8 hg8 hat8; obtain ⟨A8, c8, rfl⟩ := own_slice hown8))
      exact ⟨⟨k + 1, A8, c8, by omega, by go_num, rfl, by rw [HC.out]; exact hown8, (hb3.alloc hbs3 _).grown hg8 (by simp; omega) (fun k hk => own_base hown3 k hk)⟩, by simp [intOf]; omega⟩
    · obtain rfl : k = N := by omega
      go_wp2_with fail
      refine (rnumat_n _ _ b HS _ _ 4 rfl (by omega) (by omega) (by have := HL.out; omega) (by have := HL.out; omega)).mono ?_
      rintro r w2 ⟨rfl, hb2'⟩
      obtain ⟨X, hX⟩ : ∃ X, rdX b = X := ⟨_, rfl⟩
      rw [show be ((b.drop 4).take (Int.toNat 4)) = X from hX]
      have hXl := rdX_lt b
      rw [hX] at hXl
      have HX := Lib.hid hX
      have hown2 := own_below hown hb2' (Nat.le_refl _)
      have hb2 := hbw.trans (hb2'.mono hbs)
      have hbs2 := hb2.size
      have hcw : IntKind.u32.wrap (X : Int) = (X : Int) := IntWalk.u32_in _ (by omega)
      have hcm : (X : Int) % 4294967296 = (X : Int) := by omega
      have hp2 := Prs.of_own hown2
      clear hX hown hb2'
      go_wp2_with fail
      refine (rfput_any _ _ Av k cv (rdPs b k) hp2 (Nat.le_refl _) (rdPs_ok b k) (by omega) X hXl (L : Int)).mono ?_
      rintro r w3 ⟨hb3', hcase⟩
      have hown3 := own_below hown2 hb3' (Nat.le_refl _)
      have hb3 := hb2.trans (hb3'.mono hbs2)
      have hmin : min (rdN b) (fRoom b.length) = k := by rw [HN.out, HR.out]; omega
      have honly : Hid (∀ ps next, FPage ps next b → FPage (rdPs b k) X b) := Lib.hid fun ps next hp => by
        have := hp.only
        rw [hmin, HX.out] at this
        exact this
      rcases hcase with ⟨hRt, rfl⟩ | ⟨hRt, rfl⟩
      · rw [Int.toNat_natCast]
        by_cases heq : fPut (rdPs b k) X L = b
        · have hpg : Hid (FPage (rdPs b k) X b) := Lib.hid ⟨rdPs_ok b k, hXl, by rw [HL.out]; exact hRt, by rw [HL.out]; exact heq⟩
          rw [heq, ← HS.out]
          clear hRt heq hmin honly hp2 hown2
          go_wp2_with fail
          go_ret3
          have hkl : (rdPs b k).length = k := rdPs_length b k
          exact ⟨hb3, .inl ⟨rdPs b k, X, Av, cv, hpg.out, by rw [hkl]; rfl, by rw [hkl]; exact hown3⟩⟩
        · have hno : Hid (∀ ps next, ¬ FPage ps next b) := Lib.hid fun ps next hp => heq (by have := (honly.out ps next hp).2.2.2; rw [HL.out] at this; exact this)
          obtain ⟨sp, hsp⟩ : ∃ sp, st (fPut (rdPs b k) X L) = sp := ⟨_, rfl⟩
          have hne : (sp.toList == s.toList) = false := by
            rw [← hsp, HS.out]
            simp only [beq_eq_false_iff_ne, ne_eq]
            intro h
            exact heq (by simpa using h)
          have hne' : (sp.toList != s.toList) = true := by rw [bne, hne]; rfl
          rw [hsp]
          clear hRt heq hmin honly hp2 hown2 hsp
          go_wp2_with fail
          go_ret3
          exact RGetP.no hno.out hb3
      · have hno : Hid (∀ ps next, ¬ FPage ps next b) := Lib.hid fun ps next hp => hRt (by have := (honly.out ps next hp).2.2.1; rw [HL.out] at this; exact this)
        clear hRt hmin honly hp2 hown2
        go_wp2_with fail
        go_ret3
        exact RGetP.no hno.out hb3

end Go.Proofs.Ythmkmojlnfkfjaa
