/- The reference's Put (layer 10). -/
import Derived.Test.YthmkmojlnfkfjaaFRow
import Derived.Test.YthmkmojlnfkfjaaRefRn
import Derived.Deep.QuietTactic
import Derived.BigQuiet
namespace Go.Proofs.Ythmkmojlnfkfjaa
open Go.RowKit
set_option linter.unusedVariables false
set_option linter.unusedSimpArgs false

/-- A world that has grown from another. -/
def RB (w0 w : World) : Prop := Below w0.heap.size w0 w
theorem RB.step {w0 w w' : World} (hb : Below w.heap.size w w') (h : RB w0 w) : RB w0 w' := Below.trans h (hb.mono (Below.size h))
theorem RB.drewN {w0 w : World} (h : RB w0 w) (n : Nat) : RB w0 (w.drewN n) := below_drewN h n
theorem RB.drew {w0 w : World} (h : RB w0 w) : RB w0 w.drew := Below.drew h
theorem RB.refl (w : World) : RB w w := Below.refl _ _
theorem refnum_j (w : World) (X S : Int) (hX : 0 ≤ X) (hX' : X ≤ 18446744073709551615) (h1 : 1 ≤ S) (h8 : S ≤ 8) :
    Calls Try.prog 36 #[.int .u64 X, .int .i64 S] w fun e w' => e = .returned (.string (st (numB X.toNat S.toNat))) ∧ Below w.heap.size w w' := by
  obtain ⟨x, rfl⟩ := Int.eq_ofNat_of_zero_le hX
  obtain ⟨s, rfl⟩ := Int.eq_ofNat_of_zero_le (show 0 ≤ S by omega)
  exact refnum_any w x (by omega) s (by omega) (by omega)

/-- What the reference has put behind k pairs. -/
def rPl (ps : List FP) (next k : Nat) : List UInt8 := [4, 0] ++ numB ps.length 2 ++ numB next 4 ++ fCells (ps.take k)
theorem rPl_length (ps : List FP) (next k : Nat) : (rPl ps next k).length = 8 + min k ps.length * 12 := by simp [rPl, numB_length, fCells_length]; omega
theorem rPl_step {ps : List FP} {next k : Nat} {p : FP} (h : ps[k]? = some p) : rPl ps next k ++ (numB p.1 8 ++ numB p.2 4) = rPl ps next (k + 1) := by
  unfold rPl
  rw [take_succ_some h, fCells_snoc]
  simp
/-- Pairs rise up to the k-th. -/
def FRiseTo (ps : List FP) (k : Nat) : Prop := ∀ i p q, i + 1 < k → ps[i]? = some p → ps[i + 1]? = some q → cmpP p q < 0
theorem FRiseTo.zero (ps : List FP) (k : Nat) (h : k ≤ 1) : FRiseTo ps k := fun i p q hi => absurd hi (by omega)
theorem FRiseTo.step {ps : List FP} {j : Nat} {p q : FP} (h : FRiseTo ps (j + 1)) (hp : ps[j]? = some p) (hq : ps[j + 1]? = some q) (hc : cmpP p q < 0) : FRiseTo ps (j + 1 + 1) := fun i p' q' hi hp' hq' => by
  by_cases e : i = j
  · subst e
    rw [hp] at hp'
    rw [hq] at hq'
    cases hp'
    cases hq'
    exact hc
  · exact h i p' q' (by omega) hp' hq'
theorem FRiseTo.all {ps : List FP} (h : FRiseTo ps ps.length) : FRise ps := fun i p q hp hq => h i p q (List.getElem?_eq_some_iff.1 hq).1 hp hq
theorem cmpP_neg {p q : FP} : cmpP p q < 0 ↔ p.1 < q.1 ∨ (p.1 = q.1 ∧ p.2 < q.2) := by
  unfold cmpP cmpN
  by_cases h1 : p.1 < q.1
  · simp [h1]
  · by_cases h2 : q.1 < p.1
    · have h3 : p.1 ≠ q.1 := by omega
      simp [h1, h2, h3]
    · have h3 : p.1 = q.1 := by omega
      simp [h1, h2, h3]
      by_cases h4 : p.2 < q.2
      · simp [h4]
      · by_cases h5 : q.2 < p.2
        · simp [h4, h5]
        · simp [h4, h5]
/-- What the reference's Put gives. -/
def RPutP (ps : List FP) (next : Nat) (S : Int) (w : World) (e : Ending) (w' : World) : Prop :=
  Below w.heap.size w w' ∧ ((FRight ps S ∧ e = .returned (.tuple #[.string (st (fPut ps next S.toNat)), .int .i64 0])) ∨
    (¬ FRight ps S ∧ e = .returned (.tuple #[.string (st []), .int .i64 1])))

theorem rfput_no (w : World) (A : Option Addr) (n c : Nat) (X S : Int) (hn : n ≤ 1000000) (hno : ¬ (512 ≤ S ∧ S ≤ 4096 ∧ n ≤ fRoom S.toNat)) :
    Calls Try.prog 16 #[.slice A n c, .int .u32 X, .int .i64 S] w fun e w' => e = .returned (.tuple #[.string (st []), .int .i64 1]) ∧ Below w.heap.size w w' := by
  by_cases h1 : S < 512
  · have d1 : decide (S < 512) = true := decide_eq_true h1
    go_enter Try.func16, Try.ntmps16
    go_wp2_with fail
    go_ret2
    exact ⟨rfl, Below.refl _ _⟩
  · have d1 : decide (S < 512) = false := decide_eq_false h1
    by_cases h2 : 4096 < S
    · have d2 : decide (4096 < S) = true := decide_eq_true h2
      go_enter Try.func16, Try.ntmps16
      go_wp2_with fail
      go_ret2
      exact ⟨rfl, Below.refl _ _⟩
    · have d2 : decide (4096 < S) = false := decide_eq_false h2
      obtain ⟨size, rfl⟩ := Int.eq_ofNat_of_zero_le (show 0 ≤ S by omega)
      rw [Int.toNat_natCast] at hno
      obtain ⟨R, hR⟩ : ∃ R, fRoom size = R := ⟨_, rfl⟩
      have hroom := fun W => rroom_any size (by omega) (by omega) W
      rw [hR] at hno hroom
      clear hR
      have hgt : R < n := by omega
      have d3 : decide (R < n) = true := decide_eq_true hgt
      go_enter Try.func16, Try.ntmps16
      go_wp2_with (first
        | (go_at_call 31; refine (hroom _).mono ?_; rintro e w' ⟨rfl, rfl⟩))
      go_ret2
      exact ⟨rfl, Below.refl _ _⟩

set_option maxRecDepth 100000 in
set_option maxHeartbeats 4000000 in
theorem rfput_in (w : World) (B : Nat) (A : Option Addr) (n c : Nat) (ps : List FP) (h : Prs w B A n ps) (hBw : B ≤ w.heap.size) (hok : FPs ps) (next : Nat) (hx : next < 4294967296) (size : Nat) (h1 : 512 ≤ size) (h2 : size ≤ 4096) (hR : n ≤ fRoom size) :
    Calls Try.prog 16 #[.slice A n c, .int .u32 (next : Int), .int .i64 (size : Int)] w (RPutP ps next (size : Int) w) := by
  have hlen := h.len
  subst hlen
  obtain ⟨r1, r2, r3⟩ := fRoom_bounds (size := size) h1 h2
  have hroom := fun W => rroom_any size h1 h2 W
  have HRT := Lib.hid (show FRise ps → FRight ps (size : Int) from fun hh => ⟨by omega, by omega, by rw [Int.toNat_natCast]; exact hR, hh⟩)
  have HRN := Lib.hid (show FRight ps (size : Int) → FRise ps from fun hh => hh.2.2.2)
  obtain ⟨R, hRR⟩ : ∃ R, fRoom size = R := ⟨_, rfl⟩
  rw [hRR] at hR hroom r1 r2 r3
  clear hRR
  have hnl : 8 + ps.length * 12 ≤ size := by have : ps.length * 12 ≤ R * 12 := Nat.mul_le_mul_right _ hR; omega
  have d1 : decide ((size : Int) < 512) = false := decide_eq_false (by omega)
  have d2 : decide (4096 < (size : Int)) = false := decide_eq_false (by omega)
  have d3 : decide (R < ps.length) = false := decide_eq_false (by omega)
  have hxw : IntKind.u64.wrap (next : Int) = (next : Int) := IntWalk.u64_in _ (by omega)
  have hnw : IntKind.u64.wrap (ps.length : Int) = (ps.length : Int) := IntWalk.u64_in _ (by omega)
  go_enter Try.func16, Try.ntmps16
  go_wp2_with fail
  refine (hroom _).mono ?_
  rintro e w' ⟨rfl, rfl⟩
  clear hroom
  go_wp2_with fail
  refine (refnum_j _ _ _ (by omega) (by omega) (by omega) (by omega)).mono ?_
  rintro e w1 ⟨rfl, hb1⟩
  obtain ⟨s1, hs1⟩ : ∃ s1, st (numB (Int.toNat (ps.length : Int)) (Int.toNat 2)) = s1 := ⟨_, rfl⟩
  have hs1l : s1.size = 2 := by rw [← hs1, st_size, numB_length]; rfl
  rw [hs1]
  have HS1 := Lib.hid hs1
  clear hs1
  have q1 : ¬ 9223372036854775807 < 2 + s1.size := by omega
  go_wp2_with fail
  refine (refnum_j _ _ _ (by omega) (by omega) (by omega) (by omega)).mono ?_
  rintro e w2 ⟨rfl, hb2'⟩
  have hb2 := hb1.trans (hb2'.mono hb1.size)
  obtain ⟨s2, hs2⟩ : ∃ s2, st (numB (Int.toNat (next : Int)) (Int.toNat 4)) = s2 := ⟨_, rfl⟩
  have hs2l : s2.size = 4 := by rw [← hs2, st_size, numB_length]; rfl
  rw [hs2]
  have HS2 := Lib.hid hs2
  clear hs2 hb1 hb2'
  have q2 : ¬ 9223372036854775807 < 2 + s1.size + s2.size := by omega
  obtain ⟨S0, hS0⟩ : ∃ S0 : ByteArray, (⟨#[4, 0]⟩ : ByteArray) ++ s1 ++ s2 = S0 := ⟨_, rfl⟩
  have hS0s : Hid (S0 = st (rPl ps next 0)) := Lib.hid <| by
    rw [← hS0, ← HS1.out, ← HS2.out, show (⟨#[4, 0]⟩ : ByteArray) = st [4, 0] from rfl, st_append, st_append]
    simp [rPl, fCells]
  go_wp2_with fail
  clear hS0 q1 q2
  go_loopw [8, 9] (fun s i wr => ∃ (k : Nat) (S : ByteArray), k ≤ ps.length ∧ s = .string S ∧ i = .int .i64 (k : Int) ∧ Hid (S = st (rPl ps next k)) ∧ Hid (FRiseTo ps k) ∧ Below w.heap.size w wr) (fun _ i _ => ps.length - (intOf i).toNat)
  case atStart => exact ⟨0, _, Nat.zero_le _, rfl, rfl, hS0s, Lib.hid (FRiseTo.zero _ _ (by omega)), hb2⟩
  case round =>
    obtain ⟨k, S, hkn, rfl, rfl, hS, hri, hbw⟩ := hrel
    clear hb2 hS0s
    have hbs := hbw.size
    have hSl : S.size = 8 + k * 12 := by rw [hS.out, st_size, rPl_length, Nat.min_eq_left hkn]
    obtain ⟨sl, hsl⟩ : ∃ sl, S.size = sl := ⟨_, rfl⟩
    rw [hsl] at hSl
    have HSL := Lib.hid hsl
    by_cases hlt : k < ps.length
    · obtain ⟨ad, q, rfl, hB, hq, a0, a1⟩ := (h.below (hbw.mono hBw)).get hlt
      obtain ⟨hq1, hq2⟩ := hok q (List.mem_of_getElem? hq)
      have hKS : ∀ w', RB wr w' → w'.cell? (ad.add (k * 2)) = some (.int .u64 (q.1 : Int)) ∧ w'.cell? ⟨(ad.add (k * 2)).block, (ad.add (k * 2)).off + 1, none⟩ = some (.int .u32 (q.2 : Int)) := fun w' hw' =>
        ⟨(Below.cell hw' (p := ad.add (k * 2)) (by rw [block_of_add]; omega)).trans a0, (Below.cell hw' (p := ⟨(ad.add (k * 2)).block, (ad.add (k * 2)).off + 1, none⟩) (by show (ad.add (k * 2)).block < _; rw [block_of_add]; omega)).trans a1⟩
      have HKS := Lib.hid hKS
      have HQ := Lib.hid hq
      have hSl1 : sl ≤ 8 + k * 12 := by omega
      clear hKS hq hsl hSl
      have hr0 : RB wr wr := Below.refl _ _
      obtain ⟨a0, a1⟩ := HKS.out wr hr0
      by_cases hk0 : k = 0
      · have hri2 : Hid (FRiseTo ps (k + 1)) := Lib.hid (FRiseTo.zero _ _ (by omega))
        have hd0 : decide (0 < k) = false := decide_eq_false (by omega)
        have hd0' : decide ((0 : Int) < (k : Int)) = false := decide_eq_false (by omega)
        clear hri hk0
        go_wp2_with fail
        go_quiet (fail)
        have hS2s : S ++ (st (numB q.1 8) ++ st (numB q.2 4)) = st (rPl ps next (k + 1)) := by rw [hS.out, st_append, st_append, rPl_step HQ.out]
        have HS2 := Lib.hid hS2s
        clear hS2s
        go_wp2_with fail
        have hrq : RB wr (wr.drewN nq) := RB.drewN (RB.refl wr) nq
        have hr2 : RB wr (wr.drewN nq).drew := RB.drew hrq
        have hxw2 : IntKind.u64.wrap (q.2 : Int) = (q.2 : Int) := IntWalk.u64_in _ (by omega)
        have hnlg := numB_length
        have q3 : ¬ 9223372036854775807 < S.size + 12 := by have := HSL.out; omega
        go_region_held3 (fun w' => w'.cell? (ad.add (k * 2)) = some (.int .u64 (q.1 : Int)) ∧ w'.cell? ⟨(ad.add (k * 2)).block, (ad.add (k * 2)).off + 1, none⟩ = some (.int .u32 (q.2 : Int))) (exact HKS.out _ (by assumption)) (first | (go_at_call 36; refine (refnum_j _ _ _ (by omega) (by omega) (by omega) (by omega)).mono ?_; rintro r wn ⟨rfl, hbn⟩; have hrn := RB.step hbn (by assumption)))
        all_goals
          go_wp2_with fail
          exact ⟨⟨k + 1, _, by omega, rfl, by go_num, HS2, hri2, hbw.trans (Below.mono (by assumption) hbs)⟩, by simp [intOf]; omega⟩
      · obtain ⟨j, hj⟩ : ∃ j, j + 1 = k := ⟨k - 1, by omega⟩
        obtain ⟨ad', p, e', hB', hp, b0, b1⟩ := (h.below (hbw.mono hBw)).get (show j < ps.length by omega)
        cases e'
        have hd0 : decide (0 < k) = true := decide_eq_true (by omega)
        have hd0' : decide ((0 : Int) < (k : Int)) = true := decide_eq_true (by omega)
        have hj1 : (k : Int) - 1 = (j : Int) := by omega
        have hj2 : IntKind.i64.wrap ((k : Int) - 1) = (j : Int) := by rw [hj1]; exact IntWalk.i64_in _ (by omega)
        have hj3 : j < ps.length := by omega
        have HJ := Lib.hid hj
        clear hk0 hj
        by_cases hc : cmpP p q < 0
        · have hri2 : Hid (FRiseTo ps (k + 1)) := Lib.hid (by have := HJ.out; subst this; exact hri.out.step hp HQ.out hc)
          have c1 : ¬ q.1 < p.1 := by have := cmpP_neg.1 hc; omega
          have e1 : decide (q.1 < p.1) = false := decide_eq_false c1
          have hc' := cmpP_neg.1 hc
          clear hri hp hc
          by_cases c2 : q.1 = p.1
          · have e2 : (q.1 == p.1) = true := by simp [c2]
            have e2' : ((q.1 : Int) == (p.1 : Int)) = true := by simp [c2]
            have e3 : decide (q.2 ≤ p.2) = false := decide_eq_false (by omega)
            clear c1 c2 hc'
            go_wp2_with fail
            go_quiet (fail)
            have hS2s : S ++ (st (numB q.1 8) ++ st (numB q.2 4)) = st (rPl ps next (k + 1)) := by rw [hS.out, st_append, st_append, rPl_step HQ.out]
            have HS2 := Lib.hid hS2s
            clear hS2s
            go_wp2_with fail
            have hrq : RB wr (wr.drewN nq) := RB.drewN (RB.refl wr) nq
            have hr2 : RB wr (wr.drewN nq).drew := RB.drew hrq
            have hxw2 : IntKind.u64.wrap (q.2 : Int) = (q.2 : Int) := IntWalk.u64_in _ (by omega)
            have hnlg := numB_length
            have q3 : ¬ 9223372036854775807 < S.size + 12 := by have := HSL.out; omega
            go_region_held3 (fun w' => w'.cell? (ad.add (k * 2)) = some (.int .u64 (q.1 : Int)) ∧ w'.cell? ⟨(ad.add (k * 2)).block, (ad.add (k * 2)).off + 1, none⟩ = some (.int .u32 (q.2 : Int))) (exact HKS.out _ (by assumption)) (first | (go_at_call 36; refine (refnum_j _ _ _ (by omega) (by omega) (by omega) (by omega)).mono ?_; rintro r wn ⟨rfl, hbn⟩; have hrn := RB.step hbn (by assumption)))
            all_goals
              go_wp2_with fail
              exact ⟨⟨k + 1, _, by omega, rfl, by go_num, HS2, hri2, hbw.trans (Below.mono (by assumption) hbs)⟩, by simp [intOf]; omega⟩
          · have e2 : (q.1 == p.1) = false := by simp [c2]
            have e2' : ((q.1 : Int) == (p.1 : Int)) = false := by simp; omega
            clear c1 hc' c2
            go_wp2_with fail
            go_quiet (fail)
            have hS2s : S ++ (st (numB q.1 8) ++ st (numB q.2 4)) = st (rPl ps next (k + 1)) := by rw [hS.out, st_append, st_append, rPl_step HQ.out]
            have HS2 := Lib.hid hS2s
            clear hS2s
            go_wp2_with fail
            have hrq : RB wr (wr.drewN nq) := RB.drewN (RB.refl wr) nq
            have hr2 : RB wr (wr.drewN nq).drew := RB.drew hrq
            have hxw2 : IntKind.u64.wrap (q.2 : Int) = (q.2 : Int) := IntWalk.u64_in _ (by omega)
            have hnlg := numB_length
            have q3 : ¬ 9223372036854775807 < S.size + 12 := by have := HSL.out; omega
            go_region_held3 (fun w' => w'.cell? (ad.add (k * 2)) = some (.int .u64 (q.1 : Int)) ∧ w'.cell? ⟨(ad.add (k * 2)).block, (ad.add (k * 2)).off + 1, none⟩ = some (.int .u32 (q.2 : Int))) (exact HKS.out _ (by assumption)) (first | (go_at_call 36; refine (refnum_j _ _ _ (by omega) (by omega) (by omega) (by omega)).mono ?_; rintro r wn ⟨rfl, hbn⟩; have hrn := RB.step hbn (by assumption)))
            all_goals
              go_wp2_with fail
              exact ⟨⟨k + 1, _, by omega, rfl, by go_num, HS2, hri2, hbw.trans (Below.mono (by assumption) hbs)⟩, by simp [intOf]; omega⟩
        · have hnr : Hid (¬ FRight ps (size : Int)) := Lib.hid fun hh => hc (HRN.out hh j p q hp (by rw [HJ.out]; exact HQ.out))
          have hc' : ¬ (p.1 < q.1 ∨ (p.1 = q.1 ∧ p.2 < q.2)) := fun hh => hc (cmpP_neg.2 hh)
          clear hri hp
          by_cases c1 : q.1 < p.1
          · have e1 : decide (q.1 < p.1) = true := decide_eq_true c1
            go_wp2_with fail
            go_quiet (fail)
            go_wp2_with fail
            go_ret2
            exact ⟨below_drewN hbw _, .inr ⟨hnr.out, rfl⟩⟩
          · have e1 : decide (q.1 < p.1) = false := decide_eq_false c1
            have c2 : q.1 = p.1 := by omega
            have e2 : (q.1 == p.1) = true := by simp [c2]
            have e2' : ((q.1 : Int) == (p.1 : Int)) = true := by simp [c2]
            have e3 : decide (q.2 ≤ p.2) = true := decide_eq_true (by omega)
            clear c1 c2 hc' hc
            go_wp2_with fail
            go_quiet (fail)
            go_wp2_with fail
            go_ret2
            exact ⟨below_drewN hbw _, .inr ⟨hnr.out, rfl⟩⟩
    · obtain rfl : k = ps.length := by omega
      obtain ⟨Z, hZ⟩ : ∃ Z, size - sl = Z := ⟨_, rfl⟩
      have hZl : Z ≤ 4096 := by omega
      have hsub1 : (size : Int) - (sl : Int) = (Z : Int) := by omega
      have q1 : ¬ 9223372036854775807 < sl + Z := by omega
      have hZe : Z = size - 8 - ps.length * 12 := by omega
      have HZ := Lib.hid hZe
      have hR' := HRT.out (FRiseTo.all hri.out)
      have HRT2 := Lib.hid hR'
      clear hR' hri hZ hZe hSl
      go_wp2_with (first
        | (at_make; refine wpList_make_bytesN _ rfl _ _ _ rfl Try.underlying35 info_u8 _ _ _ rfl rfl Z (by omega) (by omega) ?_; intro w9 hr9 hb9'; have hcv := string_of_sl (P := Try.prog) Try.underlying35 Try.underlying5 Try.underlying9 (hr9.slN (n := Z) (by simp) (by omega))))
      go_ret2
      have hst : (S ++ ⟨Array.replicate Z 0⟩ : ByteArray) = st (fPut ps next (size : Int).toNat) := by
        rw [hS.out, show (⟨Array.replicate Z 0⟩ : ByteArray) = st (List.replicate Z 0) from by simp [st]]
        simp only [st_append]
        unfold fPut rPl
        rw [List.take_length, HZ.out, Int.toNat_natCast]
      refine ⟨hbw.trans (hb9'.mono hbs), .inl ⟨HRT2.out, congrArg (fun s => Ending.returned (.tuple #[.string s, .int .i64 0])) hst⟩⟩

theorem rfput_any (w : World) (B : Nat) (A : Option Addr) (n c : Nat) (ps : List FP) (h : Prs w B A n ps) (hBw : B ≤ w.heap.size) (hok : FPs ps) (hn : n ≤ 1000000) (next : Nat) (hx : next < 4294967296) (S : Int) :
    Calls Try.prog 16 #[.slice A n c, .int .u32 (next : Int), .int .i64 S] w (RPutP ps next S w) := by
  have hlen := h.len
  by_cases hin : 512 ≤ S ∧ S ≤ 4096 ∧ n ≤ fRoom S.toNat
  · obtain ⟨h1, h2, h3⟩ := hin
    obtain ⟨size, rfl⟩ := Int.eq_ofNat_of_zero_le (show 0 ≤ S by omega)
    exact rfput_in w B A n c ps h hBw hok next hx size (by omega) (by omega) h3
  · refine (rfput_no w A n c (next : Int) S hn hin).mono ?_
    rintro e w' ⟨rfl, hb⟩
    exact ⟨hb, .inr ⟨fun hR => hin ⟨hR.1, hR.2.1, by rw [← hlen]; exact hR.2.2.1⟩, rfl⟩⟩

end Go.Proofs.Ythmkmojlnfkfjaa
