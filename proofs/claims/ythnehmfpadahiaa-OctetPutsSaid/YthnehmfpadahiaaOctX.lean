/- Package octet: Reader.Var and Reader.Bytes. -/
import Derived.Test.YthnehmfpadahiaaOctU
import Derived.Deep.RegionHeld3
namespace Go.Proofs.Ythnehmfpadahiaa
open Go.RowKit
set_option linter.unusedVariables false
set_option linter.unusedSimpArgs false

theorem quiet_left' {P : Program} {f : FuncId} {args : Array Value} {w : World} {n : Nat} {v : Value}
    (h : Calls P f args (w.drewN n) fun e w' => e = .returned v ∧ w.drewN n = w') : Calls P f args (w.drewN n) fun e w'' => e = .returned v ∧ ∃ m, w'' = w.drewN m :=
  h.mono fun _ _ ⟨he, hm⟩ => ⟨he, n, hm.symm⟩

/-- s[:m] -/
theorem cut_h {P : Program} (t e : TypeId) (kh : IntKind) {i : TypeInfo} (ht : P.underlying t = some (.slice e)) (hi : P.info? e = some i) (hsz : i.size = 1) (A : Option Addr) (n c m : Nat) (hm : m ≤ c) :
    ∃ A' : Option Addr, (∀ W : World, (Instr.slice t (.slice A n c) none (some (.int kh (m : Int))) none).run P W = .ok (.slice A' m c) W) ∧
      ∀ (w : World) (B : Nat) (l : List UInt8), m ≤ n → Sl w B A n c l → Sl w B A' m c (l.take m) := by
  refine ⟨if c = 0 then A else A.map (·.add (0 * 1)), fun W => ?_, fun w B l hmn h => ⟨⟨?_, fun hn => ?_⟩, by rw [List.length_take, h.len]; omega, hm, ?_⟩⟩
  · have hel : P.elem t = e := by simp [Program.elem, ht]
    have hu : P.underlying t = some (.slice (P.elem t)) := by rw [hel]; exact ht
    rw [run_slice_h W t A n c hu kh (m : Int) (Int.natCast_nonneg _) (by omega), hel]
    simp [sizeOf, typeInfo, hi, hsz, sliced, Result.andThen]
  · simp [bv, h.len]; omega
  · obtain ⟨ad, rfl, hb, hc⟩ := h.reads.2 (by omega)
    have := h.cap
    rw [if_neg (by omega)]
    refine ⟨ad.add 0, rfl, by rw [block_of_add]; exact hb, fun j u hu => ?_⟩
    rw [add_of_add, Nat.zero_add]
    refine hc j u ?_
    simp only [bv, List.map_take] at hu
    rw [List.getElem?_take] at hu
    split at hu
    · exact hu
    · cases hu
  · intro hA
    have := h.nil
    split at hA
    · omega
    · cases A with
      | none => have := this rfl; omega
      | some a => cases hA

/-- One byte more of a number in as few as need be. -/
def v7 (x : Nat) (c : UInt8) : Nat := x * 128 % 18446744073709551616 + c.toNat % 128
def rvX (l : List UInt8) : Nat := l.foldl v7 0
theorem rvX_snoc (l : List UInt8) (c : UInt8) : rvX (l ++ [c]) = v7 (rvX l) c := by simp [rvX]
theorem v7_lt (x : Nat) (c : UInt8) : v7 x c < 18446744073709551616 := by
  unfold v7
  omega
theorem rvX_lt (l : List UInt8) : rvX l < 18446744073709551616 := by
  unfold rvX
  have : ∀ a, a < 18446744073709551616 → l.foldl v7 a < 18446744073709551616 := by
    induction l with
    | nil => intro a h; simpa using h
    | cons c l ih => intro a h; exact ih _ (v7_lt _ _)
  exact this 0 (by decide)

/-- What Var reads: whether there is a number, how many bytes it has. -/
def rvN (l : List UInt8) : Nat := fstLow (l.take 10)
def rvOk (l : List UInt8) : Prop := rvN l ≠ 0 ∧ varB (rvX (l.take (rvN l))) = l.take (rvN l)
instance (l : List UInt8) : Decidable (rvOk l) := by unfold rvOk; exact inferInstance
def varX (l : List UInt8) (e : Int) : Nat := if e = 0 ∧ rvOk l then rvX (l.take (rvN l)) else 0
def varR (l : List UInt8) (e : Int) : List UInt8 := if e = 0 ∧ rvOk l then l.drop (rvN l) else l
def varE (l : List UInt8) (e : Int) : Int := if e ≠ 0 then e else if rvOk l then 0 else if rvN l = 0 ∧ l.length < 10 then 10 else 11

theorem fstLow_le (l : List UInt8) : fstLow l ≤ l.length := by
  unfold fstLow
  split
  · rename_i i h
    have := (List.findIdx?_eq_some_iff_getElem.1 h).1
    omega
  · omega
theorem rvN_le (l : List UInt8) : rvN l ≤ l.length ∧ rvN l ≤ 10 := by
  have := fstLow_le (l.take 10)
  unfold rvN
  rw [List.length_take] at this
  omega

def VarPost (w : World) (g : Nat) (l : List UInt8) (e : Int) (r : Ending) (w' : World) : Prop :=
  ∃ x : Nat, r = .returned (.int .u64 (x : Int)) ∧ Hid (x = varX l e) ∧ x < 18446744073709551616 ∧ IsR w' g (varR l e) (varE l e) ∧ At g w w'

theorem rvar_err (w : World) (g : Nat) (l : List UInt8) (e : Int) (h : IsR w g l e) (he : e ≠ 0) :
    Calls Try.prog 34 #[.pointer (some ⟨g, 0, none⟩)] w (VarPost w g l e) := by
  have hb : (e != 0) = true := by simpa using he
  have h1 : varX l e = 0 := by simp [varX, he]
  have h2 : varR l e = l := by simp [varR, he]
  have h3 : varE l e = e := by simp [varE, he]
  clear he
  go_enter Try.func34, Try.ntmps34
  go_wp2_with (first | (go_at_call 38; refine (err_any _ _ _ _ h).mono ?_; rintro r w' ⟨rfl, rfl⟩))
  go_ret
  exact ⟨0, rfl, Lib.hid h1.symm, by decide, by rw [h2, h3]; exact h, At.refl _ _⟩

theorem min10 (n : Nat) : ∃ m : Nat, (if (10 : Int) < (n : Int) then (10 : Int) else (n : Int)) = (m : Int) ∧ m ≤ n ∧ m ≤ 10 ∧ (m = n ∨ m = 10) := by
  by_cases h : 10 < n
  · exact ⟨10, by rw [if_pos (by omega)]; rfl, by omega, by omega, Or.inr rfl⟩
  · exact ⟨n, by rw [if_neg (by omega)], by omega, by omega, Or.inl rfl⟩
theorem take_min (l : List UInt8) (n m : Nat) (hl : l.length = n) (hm : m ≤ n) (h : m ≤ 10) (h2 : m = n ∨ m = 10) : l.take m = l.take 10 := by
  rcases h2 with rfl | rfl
  · rw [List.take_of_length_le (by omega), List.take_of_length_le (by omega)]
  · rfl

theorem rvar_none (w : World) (g : Nat) (l : List UInt8) (h : IsR w g l 0) (hl : l.length ≤ 140737488355328) (hn : rvN l = 0) :
    Calls Try.prog 34 #[.pointer (some ⟨g, 0, none⟩)] w (VarPost w g l 0) := by
  obtain ⟨i0, hi0, hz0, hz1, hz2⟩ := info_parts info_u8
  have hok : ¬ rvOk l := fun hh => hh.1 hn
  have h1 : varX l 0 = 0 := by simp [varX, hok]
  have h2 : varR l 0 = l := by simp [varR, hok]
  have hR := h
  obtain ⟨A, n, c, hb, hs⟩ := h
  have hc0 := blk_cell hb 0
  have hlen := hs.len
  have HLEN := Lib.hid hlen
  have HRN := Lib.hid hn
  obtain ⟨m, hmin, hmn, hm10, hmm⟩ := min10 n
  have hcm : m ≤ c := by have := hs.cap; omega
  obtain ⟨A1, hcut1, hsl1⟩ := cut_h (P := Try.prog) 22 5 .i64 Try.underlying22 hi0 hz1 A n c m hcm
  have hix := fun w' hs' => indexF_any w' g A1 m c (l.take m) hs' (by omega)
  rw [take_min l n m hlen hmn hm10 hmm, show (fstLow (l.take 10) : Int) - 1 = -1 by rw [show fstLow (l.take 10) = 0 from hn]; rfl] at hix
  have hsl := hsl1 w g l hmn hs
  rw [take_min l n m hlen hmn hm10 hmm] at hsl
  clear hn hlen hl hmm hsl1
  have hsm : ∀ k, Sl (w.drewN k) g A1 m c (l.take 10) := fun k => hsl.keep fun j hj => rfl
  by_cases h10 : 10 ≤ n
  · have h3 : varE l 0 = 11 := by
      have := HLEN.out
      simp [varE, hok]; omega
    have H3 := Lib.hid h3
    clear h3 hok
    have h10b : decide ((10 : Int) ≤ (n : Int)) = true := decide_eq_true (by omega)
    go_enter Try.func34, Try.ntmps34
    go_wp2_with (first | (go_at_call 38; refine (err_any _ _ _ _ hR).mono ?_; rintro r w' ⟨rfl, rfl⟩))
    go_quiet ((go_at_call 48; exact quiet_left' (hix _ (hsm _))))
    go_wp2_with fail
    refine (fail_any _ _ _ _ 11 (hR.below (below_drewN (Below.refl (g + 1) w) _) (by omega))).mono ?_
    rintro r w1 ⟨rfl, hR1, hA1⟩
    go_wp2_with fail
    refine (fail_any _ _ _ _ 10 hR1).mono ?_
    rintro r w2 ⟨rfl, hR2, hA2⟩
    go_wp2_with fail
    go_ret
    exact ⟨0, rfl, Lib.hid h1.symm, by decide, by rw [h2, H3.out]; exact hR2, (At.of_below (below_drewN (Below.refl _ w) _)).trans (hA1.trans hA2)⟩
  · have h3 : varE l 0 = 10 := by
      have := HLEN.out
      simp [varE, hok, HRN.out]; omega
    have H3 := Lib.hid h3
    clear h3 hok
    have h10b : decide ((10 : Int) ≤ (n : Int)) = false := decide_eq_false (by omega)
    go_enter Try.func34, Try.ntmps34
    go_wp2_with (first | (go_at_call 38; refine (err_any _ _ _ _ hR).mono ?_; rintro r w' ⟨rfl, rfl⟩))
    go_quiet ((go_at_call 48; exact quiet_left' (hix _ (hsm _))))
    go_wp2_with fail
    refine (fail_any _ _ _ _ 10 (hR.below (below_drewN (Below.refl (g + 1) w) _) (by omega))).mono ?_
    rintro r w1 ⟨rfl, hR1, hA1⟩
    go_wp2_with fail
    go_ret
    exact ⟨0, rfl, Lib.hid h1.symm, by decide, by rw [h2, H3.out]; exact hR1, (At.of_below (below_drewN (Below.refl _ w) _)).trans hA1⟩

theorem or_v7 (x : Nat) (u : UInt8) (hx : x < 18446744073709551616) : bits BinOp.or IntKind.u64 (IntKind.u64.wrap ((x : Int) * 128)) ((u.toNat : Int) % 128) = ((v7 x u : Nat) : Int) := by
  have hu := u.toNat_lt
  have h1 : IntKind.u64.wrap ((x : Int) * 128) = ((x * 128 % 18446744073709551616 : Nat) : Int) := by
    simp [IntKind.wrap, IntKind.bits, IntKind.signed]
  have h2 : ((u.toNat : Int) % 128) = ((u.toNat % 128 : Nat) : Int) := by omega
  rw [h1, h2, u64_or_nat _ _ (by omega) (by omega)]
  unfold v7
  have hq : x * 128 % 18446744073709551616 = 128 * (x % 144115188075855872) := by omega
  rw [hq]
  have := Nat.two_pow_add_eq_or_of_lt (i := 7) (b := u.toNat % 128) (by omega) (x % 144115188075855872)
  rw [show (128 : Nat) = 2 ^ 7 from rfl, ← this]

theorem rvar_some (w : World) (g : Nat) (l : List UInt8) (h : IsR w g l 0) (hl : l.length ≤ 140737488355328) (hn : rvN l ≠ 0) :
    Calls Try.prog 34 #[.pointer (some ⟨g, 0, none⟩)] w (VarPost w g l 0) := by
  obtain ⟨i0, hi0, hz0, hz1, hz2⟩ := info_parts info_u8
  have hR := h
  obtain ⟨A, n, c, hb, hs⟩ := h
  have hc0 := blk_cell hb 0
  have hlen := hs.len
  obtain ⟨m, hmin, hmn, hm10, hmm⟩ := min10 n
  have hcap := hs.cap
  have hcm : m ≤ c := by omega
  obtain ⟨A1, hcut1, hsl1⟩ := cut_h (P := Try.prog) 22 5 .i64 Try.underlying22 hi0 hz1 A n c m hcm
  have hix := fun w' hs' => indexF_any w' g A1 m c (l.take m) hs' (by omega)
  obtain ⟨j, hj⟩ : ∃ j, rvN l = j + 1 := ⟨rvN l - 1, by omega⟩
  rw [take_min l n m hlen hmn hm10 hmm, show (fstLow (l.take 10) : Int) - 1 = (j : Int) by rw [show fstLow (l.take 10) = j + 1 from hj]; omega] at hix
  have hsl := hsl1 w g l hmn hs
  rw [take_min l n m hlen hmn hm10 hmm] at hsl
  have hsm : ∀ k, Sl (w.drewN k) g A1 m c (l.take 10) := fun k => hsl.keep fun j hj => rfl
  obtain ⟨q, hq⟩ : ∃ q, q = rvN l := ⟨_, rfl⟩
  have hqn := rvN_le l
  rw [← hq] at hqn
  obtain ⟨hqn1, hqn2⟩ := hqn
  rw [hlen] at hqn1
  have hq1 : 1 ≤ q := by omega
  have hsum : IntKind.i64.wrap ((j : Int) + 1) = (q : Int) := by rw [IntWalk.i64_in _ (by omega)]; omega
  obtain ⟨A2, hcut2, hsl2⟩ := cut_h (P := Try.prog) 22 5 .i64 Try.underlying22 hi0 hz1 A n c q (by omega)
  have hs2 := hsl2 w g l hqn1 hs
  obtain ⟨L, hL⟩ : ∃ L, l.take q = L := ⟨_, rfl⟩
  rw [hL] at hs2
  have HQ := Lib.hid hq
  have HLL := Lib.hid hL
  have HLEN := Lib.hid hlen
  have HL2 := Lib.hid hs2.len
  clear hq hL hlen hj hn hmm hsl1 hsl hsl2
  go_enter Try.func34, Try.ntmps34
  go_wp2_with (first | (go_at_call 38; refine (err_any _ _ _ _ hR).mono ?_; rintro r w' ⟨rfl, rfl⟩))
  go_quiet ((go_at_call 48; exact quiet_left' (hix _ (hsm _))))
  clear hix hsm hsum
  go_wp2_with fail
  go_loop [4, 42] (fun x i => ∃ k : Nat, k ≤ q ∧ i = .int .i64 k ∧ x = .int .u64 (rvX (L.take k) : Nat)) (fun _ i => q - (intOf i).toNat)
  case atStart => exact ⟨0, Nat.zero_le _, rfl, by simp [rvX]⟩
  case round =>
    obtain ⟨k, hk, rfl, rfl⟩ := hrel
    by_cases hlt : k < q
    · obtain ⟨ad, u, rfl, hblt, hu, hcell⟩ := hs2.get hlt
      have hbl := rvX_lt (L.take k)
      have HU := Lib.hid hu
      clear hu
      go_wp2
      refine ⟨⟨k + 1, by omega, by go_num, ?_⟩, by simp [intOf]; omega⟩
      rw [or_v7 _ _ hbl, take_snoc HU.out, rvX_snoc]
    · have hk : k = q := by omega
      subst hk
      rw [List.take_of_length_le (by have := HL2.out; omega)]
      obtain ⟨x, hx⟩ : ∃ x, rvX L = x := ⟨_, rfl⟩
      have hxl := rvX_lt L
      rw [hx] at hxl ⊢
      have HX := Lib.hid hx
      clear hx
      go_wp2
      have hRd := hR.below (below_drewN (Below.refl (g + 1) w) nq) (by omega)
      have hsd : Sl (w.drewN nq) g A2 k c L := hs2.keep fun j hj => rfl
      have hz : (w.drewN nq).heap.size = w.heap.size := rfl
      have hAd : At g w (w.drewN nq) := At.of_below (below_drewN (Below.refl _ w) _)
      have hcd : (w.drewN nq).cell? ⟨g, 0, none⟩ = some (.slice A n c) := hc0
      have hglt := hR.lt
      generalize w.drewN nq = w1 at *
      have hX : ∀ r ex, (rvOk l → (ex = 0 ∧ r = l.drop (rvN l))) → (¬ rvOk l → ex = 11 ∧ r = l) → varR l 0 = r ∧ varE l 0 = ex := by
        intro r ex h1 h2
        have hne : rvN l ≠ 0 := by rw [← HQ.out]; omega
        by_cases hok : rvOk l
        · obtain ⟨rfl, rfl⟩ := h1 hok
          exact ⟨by simp [varR, hok], by simp [varE, hok]⟩
        · obtain ⟨rfl, rfl⟩ := h2 hok
          exact ⟨by simp [varR, hok], by simp [varE, hok, hne]⟩
      have hXx : ∀ v, (rvOk l → v = x) → (¬ rvOk l → v = 0) → v = varX l 0 := by
        intro v h1 h2
        by_cases hok : rvOk l
        · rw [h1 hok]; simp only [varX, hok]; rw [← HQ.out, HLL.out, HX.out]; simp
        · rw [h2 hok]; simp [varX, hok]
      have hokk : rvOk l ↔ varB x = L := by
        unfold rvOk
        rw [← HQ.out, HLL.out, HX.out]
        constructor
        · exact fun h => h.2
        · exact fun h => ⟨by omega, h⟩
      have HXH := Lib.hid hX
      have HXX := Lib.hid hXx
      have HOK := Lib.hid hokk
      clear hX hXx hokk
      by_cases heq : varB x = L
      · have HEQ := Lib.hid heq
        clear heq
        go_region_held3 (fun w' => w'.cell? ⟨g, 0, none⟩ = some (.slice A n c) ∧ Below w1.heap.size w1 w') (first | exact ⟨hcd, (Below.refl _ _).drew⟩ | exact ⟨(hb4.cell (show g < w3.heap.size by have := hb3.size; simp at this; omega)).trans ((hb3.cell (show g < w1.drew.heap.size by simp; omega)).trans hcd), ((Below.refl _ _).drew.trans hb3).trans (hb4.mono hb3.size)⟩ | exact ⟨(hb3.cell (show g < w1.drew.heap.size by simp; omega)).trans hcd, (Below.refl _ _).drew.trans hb3⟩)
          (first | (go_at_call 47; refine (short_any _ x (by omega)).mono ?_; rintro e w3 ⟨gs, ns, cs, rfl, hmb, hns, hnc, hgs, hb3⟩) | (go_at_call 51; have HE := equalS_any w3 _ _ _ _ _ _ _ _ _ _ (hmb.sl hns hnc) (hsd.keep fun j hj => hb3.block j (by simp; omega)) (by have := HL2.out; have := varB_length x; omega); rw [decide_eq_true HEQ.out] at HE; refine HE.mono ?_; rintro e w4 ⟨rfl, hb4⟩))
        have hR4 : IsR w4 g l 0 := (hRd.below ((Below.refl (g + 1) w1).drew) (by omega) |>.below hb3 (by simp; omega)).below hb4 (by have := hb3.size; simp at this; omega)
        have hA4 : At g w w4 := hAd.trans (((At.refl _ _).drew.trans (At.of_below hb3)).trans (At.of_below hb4))
        go_wp2_with fail
        refine (take_any _ _ _ _ k hR4).mono ?_
        rintro e w5 ⟨A5, n5, c5, rfl, hs5, hR5, hA5⟩
        go_wp2_with fail
        go_ret
        have hlen := HLEN.out
        have hok := HOK.out.2 HEQ.out
        obtain ⟨h1, h2⟩ := HXH.out (l.drop (rvN l)) 0 (fun _ => ⟨rfl, rfl⟩) (fun h => absurd hok h)
        have h3 := HXX.out x (fun _ => rfl) (fun h => absurd hok h)
        refine ⟨x, rfl, Lib.hid h3, hxl, ?_, hA4.trans hA5⟩
        rw [h1, h2, ← HQ.out]
        have hlt' : ¬ l.length < k := by omega
        have e1 : takeR l 0 k = l.drop k := by simp [takeR, hlt']
        have e2 : takeE l 0 k = 0 := by simp [takeE, hlt']
        rw [e1, e2] at hR5
        exact hR5
      · have HEQ := Lib.hid heq
        clear heq
        go_region_held3 (fun w' => w'.cell? ⟨g, 0, none⟩ = some (.slice A n c) ∧ Below w1.heap.size w1 w') (first | exact ⟨hcd, (Below.refl _ _).drew⟩ | exact ⟨(hb4.cell (show g < w3.heap.size by have := hb3.size; simp at this; omega)).trans ((hb3.cell (show g < w1.drew.heap.size by simp; omega)).trans hcd), ((Below.refl _ _).drew.trans hb3).trans (hb4.mono hb3.size)⟩ | exact ⟨(hb3.cell (show g < w1.drew.heap.size by simp; omega)).trans hcd, (Below.refl _ _).drew.trans hb3⟩)
          (first | (go_at_call 47; refine (short_any _ x (by omega)).mono ?_; rintro e w3 ⟨gs, ns, cs, rfl, hmb, hns, hnc, hgs, hb3⟩) | (go_at_call 51; have HE := equalS_any w3 _ _ _ _ _ _ _ _ _ _ (hmb.sl hns hnc) (hsd.keep fun j hj => hb3.block j (by simp; omega)) (by have := HL2.out; have := varB_length x; omega); rw [decide_eq_false HEQ.out] at HE; refine HE.mono ?_; rintro e w4 ⟨rfl, hb4⟩))
        have hR4 : IsR w4 g l 0 := (hRd.below ((Below.refl (g + 1) w1).drew) (by omega) |>.below hb3 (by simp; omega)).below hb4 (by have := hb3.size; simp at this; omega)
        have hA4 : At g w w4 := hAd.trans (((At.refl _ _).drew.trans (At.of_below hb3)).trans (At.of_below hb4))
        go_wp2_with fail
        refine (fail_any _ _ _ _ 11 hR4).mono ?_
        rintro e w5 ⟨rfl, hR5, hA5⟩
        go_wp2_with fail
        go_ret
        have hok : ¬ rvOk l := fun h => HEQ.out (HOK.out.1 h)
        obtain ⟨h1, h2⟩ := HXH.out l 11 (fun h => absurd h hok) (fun _ => ⟨rfl, rfl⟩)
        have h3 := HXX.out 0 (fun h => absurd h hok) (fun _ => rfl)
        refine ⟨0, rfl, Lib.hid h3, by decide, ?_, hA4.trans hA5⟩
        rw [h1, h2]
        exact hR5

theorem rvar_any (w : World) (g : Nat) (l : List UInt8) (e : Int) (h : IsR w g l e) (hl : l.length ≤ 140737488355328) :
    Calls Try.prog 34 #[.pointer (some ⟨g, 0, none⟩)] w (VarPost w g l e) := by
  by_cases he : e = 0
  · subst he
    by_cases hn : rvN l = 0
    · exact rvar_none w g l h hl hn
    · exact rvar_some w g l h hl hn
  · exact rvar_err w g l e h he
end Go.Proofs.Ythnehmfpadahiaa
