/- rubricatorref05.Put. -/
import Derived.Test.YtmljfjmceakahaaBRefR
import Derived.Test.YtmljfjmceakahaaBEntP
namespace Go.Proofs.Ytmljfjmceakahaa
open Go.RowKit
set_option linter.unusedVariables false
set_option linter.unusedSimpArgs false

theorem refnum_j (w : World) (X S : Int) (hX : 0 ≤ X) (hX' : X ≤ 18446744073709551615) (h1 : 1 ≤ S) (h8 : S ≤ 8) :
    Calls Try.prog 46 #[.int .u64 X, .int .i64 S] w fun e w' => e = .returned (.string (st (numB X.toNat S.toNat))) ∧ Below w.heap.size w w' := by
  obtain ⟨x, rfl⟩ := Int.eq_ofNat_of_zero_le hX
  obtain ⟨s, rfl⟩ := Int.eq_ofNat_of_zero_le (show 0 ≤ S by omega)
  exact refnum_any w x (by omega) s (by omega) (by omega)
/-- A world that has grown from another. -/
def RB (w0 w : World) : Prop := Below w0.heap.size w0 w
theorem RB.step {w0 w w' : World} (hb : Below w.heap.size w w') (h : RB w0 w) : RB w0 w' := Below.trans h (hb.mono (Below.size h))

theorem rbput_no (w : World) (B : Nat) (A : Option Addr) (n c : Nat) (es : List (List UInt8 × Nat)) (h : REnts w B A n es) (hBw : B ≤ w.heap.size) (hn : n ≤ 1000000) (hk : ∀ e ∈ es, e.1.length ≤ 1000000) (S : Int) (hno : ¬ BRight es S) :
    Calls Try.prog 18 #[.slice A n c, .int .i64 S] w fun e w' => e = .returned (.tuple #[.string (st []), .int .i64 1]) ∧ Below w.heap.size w w' := by
  go_enter Try.func18, Try.ntmps18
  go_wp2_with fail
  refine (rright_any w B A n c es h hBw hn hk S).mono ?_
  rintro e w1 ⟨b, rfl, hb, hb1⟩
  have hbf : b = false := by
    cases b with
    | false => rfl
    | true => exact absurd (hb.1 rfl) hno
  subst hbf
  clear hb
  go_wp2_with fail
  go_ret2
  exact ⟨rfl, hb1⟩

theorem rbput_full (w : World) (B : Nat) (A : Option Addr) (n c : Nat) (es : List (List UInt8 × Nat)) (h : REnts w B A n es) (hBw : B ≤ w.heap.size) (hn : n ≤ 1000000) (hk : ∀ e ∈ es, e.1.length ≤ 1000000) (S : Int) (hR : BRight es S) (hF : S < (bFill es : Int)) :
    Calls Try.prog 18 #[.slice A n c, .int .i64 S] w fun e w' => e = .returned (.tuple #[.string (st []), .int .i64 21]) ∧ Below w.heap.size w w' := by
  obtain ⟨F, hFF⟩ : ∃ F, bFill es = F := ⟨_, rfl⟩
  have hfill : ∀ W, Below B w W → Calls Try.prog 22 #[.slice A n c] W fun e w' => e = .returned (.int .i64 (F : Int)) ∧ Below W.heap.size W w' := fun W hW => by
    rw [← hFF]
    exact rfill_any W B A n c es (h.below hW) (Nat.le_trans hBw hW.size) hn hk
  rw [hFF] at hF
  have hFd : decide (S < (F : Int)) = true := decide_eq_true hF
  clear hFF
  go_enter Try.func18, Try.ntmps18
  go_wp2_with fail
  refine (rright_any w B A n c es h hBw hn hk S).mono ?_
  rintro e w1 ⟨b, rfl, hb, hb1⟩
  have hbt : b = true := hb.2 hR
  subst hbt
  clear hb hR
  go_wp2_with fail
  refine (hfill w1 (hb1.mono hBw)).mono ?_
  rintro e w2 ⟨rfl, hb2'⟩
  have hb2 := hb1.trans (hb2'.mono hb1.size)
  clear hfill
  go_wp2_with fail
  go_ret2
  exact ⟨rfl, hb2⟩

set_option maxRecDepth 100000 in
set_option maxHeartbeats 2000000 in
theorem rbput_ok (w : World) (B : Nat) (A : Option Addr) (n c : Nat) (es : List (List UInt8 × Nat)) (h : REnts w B A n es) (hBw : B ≤ w.heap.size) (hn : n ≤ 1000) (size : Nat) (hR : BRight es (size : Int)) (hF : bFill es ≤ size) :
    Calls Try.prog 18 #[.slice A n c, .int .i64 (size : Int)] w fun e w' => e = .returned (.tuple #[.string (st (bPut es size)), .int .i64 0]) ∧ Below w.heap.size w w' := by
  have hs1 : 512 ≤ size := by have := hR.1; omega
  have hs2 : size ≤ 4096 := by have := hR.2.1; omega
  have hk96 : ∀ e ∈ es, e.1.length ≤ 96 := by
    intro e he
    obtain ⟨i, hi, rfl⟩ := List.getElem_of_mem he
    exact (hR.2.2.2.2 i hi es[i].1 es[i].2 (List.getElem?_eq_getElem hi)).2.1
  have hk1 : ∀ e ∈ es, e.1.length ≤ 1000000 := fun e he => by have := hk96 e he; omega
  obtain ⟨F, hFF⟩ : ∃ F, bFill es = F := ⟨_, rfl⟩
  have hfill : ∀ W, Below B w W → Calls Try.prog 22 #[.slice A n c] W fun e w' => e = .returned (.int .i64 (F : Int)) ∧ Below W.heap.size W w' := fun W hW => by
    rw [← hFF]
    exact rfill_any W B A n c es (h.below hW) (Nat.le_trans hBw hW.size) (by omega) hk1
  have hright : ∀ W, Below B w W → Calls Try.prog 19 #[.slice A n c, .int .i64 (size : Int)] W fun e w' => e = .returned (.bool true) ∧ Below W.heap.size W w' := fun W hW => by
    refine (rright_any W B A n c es (h.below hW) (Nat.le_trans hBw hW.size) (by omega) hk1 (size : Int)).mono ?_
    rintro e w' ⟨b, rfl, hb, hbl⟩
    rw [hb.2 hR]
    exact ⟨rfl, hbl⟩
  have hbc := fun k => bCells_length (es.take k)
  have hbf := fun k => bFill_le es k
  have HN := Lib.hid h.1
  rw [hFF] at hF
  have hFd : decide ((size : Int) < (F : Int)) = false := decide_eq_false (by omega)
  have HFF := Lib.hid hFF
  have HBC := Lib.hid hbc
  have HBF := Lib.hid hbf
  clear hFF hR hk1 hbc hbf
  go_enter Try.func18, Try.ntmps18
  go_wp2_with fail
  refine (hright w (Below.refl _ _)).mono ?_
  rintro e w1 ⟨rfl, hb1⟩
  go_wp2_with fail
  refine (hfill w1 (hb1.mono hBw)).mono ?_
  rintro e w2 ⟨rfl, hb2'⟩
  have hb2 := hb1.trans (hb2'.mono hb1.size)
  clear hb1 hb2' hright hfill
  have hxn : IntKind.u64.wrap (n : Int) = (n : Int) := IntWalk.u64_in _ (by omega)
  go_wp2_with fail
  refine (refnum_i _ _ _ (by omega) (by omega) (by omega) (by omega)).mono ?_
  rintro e w3 ⟨s3, rfl, hs3, hs3a, hs3b, hb3'⟩
  have hb3 := hb2.trans (hb3'.mono hb2.size)
  have hs3c : s3.size ≤ 2 := by have := hs3b; simpa using this
  have hs3d : 2 ≤ s3.size := by have := hs3a; simpa using this
  obtain ⟨S0, hS0⟩ : ∃ S0 : ByteArray, (⟨#[2, 0]⟩ : ByteArray) ++ s3 = S0 := ⟨_, rfl⟩
  have hS0s : Hid (S0 = st (bPl es size 0)) := Lib.hid <| by
    rw [← hS0, hs3.out, show (⟨#[2, 0]⟩ : ByteArray) = st [2, 0] from rfl, st_append]
    simp [bPl, HN.out]
    rfl
  have hS0l : S0.size ≤ 4 := by rw [hS0s.out, st_size, bPl_length]; omega
  have hS0g : 4 ≤ S0.size := by rw [hS0s.out, st_size, bPl_length]; omega
  clear hb2 hb3' hs3 hs3a hs3b hxn
  go_wp2_with fail
  have hz3 := hb3.size
  go_loopw [8, 9, 10] (fun s c i wr => ∃ (k : Nat) (S C : ByteArray), k ≤ n ∧ s = .string S ∧ c = .string C ∧ i = .int .i64 (k : Int) ∧ Hid (S = st (bPl es size k)) ∧ Hid (C = st (bCells (es.take k))) ∧ S.size ≤ 4 + 2 * k ∧ C.size ≤ size ∧ Below w.heap.size w wr) (fun _ _ i _ => n - (intOf i).toNat)
  case atStart => exact ⟨0, _, _, Nat.zero_le _, rfl, rfl, rfl, hS0s, Lib.hid rfl, by omega, Nat.zero_le _, hb3⟩
  case round =>
    obtain ⟨k, S, C, hkn, rfl, rfl, rfl, hS, hC, hSl, hCl, hbw⟩ := hrel
    by_cases hlt : k < n
    · obtain ⟨ky, x, ad, he, hx, rfl, hB, a0, a1⟩ := (h.below (hbw.mono hBw)).at_ hlt
      have a1 : wr.cell? ⟨(ad.add (k * 2)).block, (ad.add (k * 2)).off + 1, none⟩ = some (.int .u32 x) := a1
      have hbs := hbw.size
      obtain ⟨ts, hts⟩ : ∃ ts, st ky = ts := ⟨_, rfl⟩
      rw [hts] at a0
      have hky : ky.length ≤ 96 := hk96 _ (List.mem_of_getElem? he)
      have hsz : ts.size ≤ 96 := by rw [← hts, st_size]; exact hky
      obtain ⟨nk, hnk⟩ : ∃ nk, ts.size = nk := ⟨_, rfl⟩
      rw [hnk] at hsz
      have HNK := Lib.hid hnk
      have hKS : ∀ w', RB wr w' → w'.cell? (ad.add (k * 2)) = some (.string ts) ∧ w'.cell? ⟨(ad.add (k * 2)).block, (ad.add (k * 2)).off + 1, none⟩ = some (.int .u32 (x : Int)) := fun w' hw' =>
        ⟨(Below.cell hw' (p := ad.add (k * 2)) (by rw [block_of_add]; omega)).trans a0, (Below.cell hw' (p := ⟨(ad.add (k * 2)).block, (ad.add (k * 2)).off + 1, none⟩) (by show (ad.add (k * 2)).block < _; rw [block_of_add]; omega)).trans a1⟩
      have HKS := Lib.hid hKS
      have HTS := Lib.hid hts
      have HE := Lib.hid he
      have hr0 : RB wr wr.drew := (Below.refl _ _).drew
      have hxw : IntKind.u64.wrap (x : Int) = (x : Int) := IntWalk.u64_in _ (by omega)
      have hnw : IntKind.u64.wrap (nk : Int) = (nk : Int) := IntWalk.u64_in _ (by omega)
      have hnl := numB_length
      obtain ⟨cl, hcl⟩ : ∃ cl, C.size = cl := ⟨_, rfl⟩
      rw [hcl] at hCl
      have q1 : ¬ 9223372036854775807 < 1 + nk := by omega
      have q2 : ¬ 9223372036854775807 < 1 + nk + 4 := by omega
      have q3 : ¬ 9223372036854775807 < 1 + nk + 4 + cl := by omega
      clear hKS hts he a0 a1
      go_wp2_with fail
      go_region_held3 (fun w' => w'.cell? (ad.add (k * 2)) = some (.string ts) ∧ w'.cell? ⟨(ad.add (k * 2)).block, (ad.add (k * 2)).off + 1, none⟩ = some (.int .u32 (x : Int))) (exact HKS.out _ (by assumption)) (first | (go_at_call 46; refine (refnum_j _ _ _ (by omega) (by omega) (by omega) (by omega)).mono ?_; rintro r wn ⟨rfl, hbn⟩; have hrn := RB.step hbn (by assumption)))
      obtain ⟨C2, hC2⟩ : ∃ C2 : ByteArray, st (numB nk 1) ++ ts ++ st (numB x 4) ++ C = C2 := ⟨_, rfl⟩
      rw [hC2]
      have hC2s : C2 = st (bCells (es.take (k + 1))) := by
        rw [← hC2, take_succ_some HE.out, bCells_snoc, hC.out, ← HTS.out]
        have : nk = ky.length := by rw [← HNK.out, ← HTS.out, st_size]
        simp only [st_append]
        simp [bCell, this]
      have hbl := hrn.size
      have hbn2 := hbw.trans (Below.mono hrn hbs)
      obtain ⟨cl2, hcl2⟩ : ∃ cl2, C2.size = cl2 := ⟨_, rfl⟩
      have hcl2s : cl2 ≤ size := by
        have h1 := HBC.out (k + 1)
        have h2 := HBF.out (k + 1)
        rw [HFF.out] at h2
        rw [← hcl2, hC2s, st_size]
        omega
      obtain ⟨E2, hE2⟩ : ∃ E2, size - cl2 = E2 := ⟨_, rfl⟩
      have hsub : (size : Int) - (cl2 : Int) = (E2 : Int) := by omega
      have hxE : IntKind.u64.wrap (E2 : Int) = (E2 : Int) := IntWalk.u64_in _ (by omega)
      have HC2 := Lib.hid hC2s
      have HCL2 := Lib.hid hcl2
      have HE2 := Lib.hid hE2
      clear hC2 hC2s hE2 hrn hbn hr0 q1 q2 q3 hxw hnw hcl hnk
      go_wp2_with fail
      refine (refnum_i _ _ _ (by omega) (by omega) (by omega) (by omega)).mono ?_
      rintro e w5 ⟨s5, rfl, hs5, hs5a, hs5b, hb5'⟩
      have hb5 := hbn2.trans (hb5'.mono hbn2.size)
      have hs5c : s5.size ≤ 2 := by have := hs5b; simpa using this
      have q4 : ¬ 9223372036854775807 < S.size + s5.size := by omega
      obtain ⟨S2, hS2⟩ : ∃ S2 : ByteArray, S ++ s5 = S2 := ⟨_, rfl⟩
      have hS2s : S2 = st (bPl es size (k + 1)) := by
        rw [← hS2, hS.out, hs5.out, st_append, bPl_succ]
        have : (E2 : Int).toNat = size - (bCells (es.take (k + 1))).length := by
          rw [Int.toNat_natCast, ← HE2.out, ← HCL2.out, HC2.out, st_size]
        rw [this]
        rfl
      have hS2l : S2.size ≤ 4 + 2 * (k + 1) := by rw [hS2s, st_size, bPl_length]; omega
      have HS2 := Lib.hid hS2s
      have hC2l : C2.size ≤ size := by rw [HCL2.out]; exact hcl2s
      clear hS2s hs5 hs5a hs5b hbn2 hb5'
      go_wp2_with fail
      exact ⟨⟨k + 1, S2, C2, hlt, rfl, rfl, by go_num, HS2, HC2, hS2l, hC2l, hb5⟩, by simp [intOf]; omega⟩
    · obtain rfl : k = n := by omega
      have htk : es.take k = es := List.take_of_length_le (by rw [HN.out]; exact Nat.le_refl _)
      rw [htk] at hC
      have h1 := HBC.out k
      rw [htk, HFF.out, HN.out] at h1
      have hSs : S.size = 4 + 2 * k := by rw [hS.out, st_size, bPl_length]
      have hCs : C.size = (bCells es).length := by rw [hC.out, st_size]
      obtain ⟨sl, hsl⟩ : ∃ sl, S.size = sl := ⟨_, rfl⟩
      obtain ⟨cl, hcl⟩ : ∃ cl, C.size = cl := ⟨_, rfl⟩
      obtain ⟨Z, hZ⟩ : ∃ Z, size - sl - cl = Z := ⟨_, rfl⟩
      have hZF : Z = size - F := by omega
      have hZl : Z ≤ 4096 := by omega
      have hsub1 : (size : Int) - (sl : Int) - (cl : Int) = (Z : Int) := by omega
      have hbs := hbw.size
      have q1 : ¬ 9223372036854775807 < sl + Z := by omega
      have q2 : ¬ 9223372036854775807 < sl + Z + cl := by omega
      have HZ := Lib.hid hZF
      clear h1 hSs hCs hZ hZF
      go_wp2_with (first
        | (at_make; refine wpList_make_bytesN _ rfl _ _ _ rfl Try.underlying23 info_u8 _ _ _ rfl rfl Z (by omega) (by omega) ?_; intro w9 hr9 hb9'; have hcv := string_of_sl (P := Try.prog) Try.underlying23 Try.underlying5 Try.underlying9 (hr9.slN (n := Z) (by simp) (by omega))))
      go_ret2
      have hst : (S ++ ⟨Array.replicate Z 0⟩ ++ C : ByteArray) = st (bPut es size) := by
        rw [hS.out, hC.out, show (⟨Array.replicate Z 0⟩ : ByteArray) = st (List.replicate Z 0) from by simp [st]]
        simp only [st_append]
        unfold bPut
        rw [HN.out, HZ.out, HFF.out]
      exact ⟨congrArg (fun s => Ending.returned (.tuple #[.string s, .int .i64 0])) hst, hbw.trans (hb9'.mono hbs)⟩

end Go.Proofs.Ytmljfjmceakahaa
