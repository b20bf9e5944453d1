/- rubricatorref04.Put. -/
import Derived.Test.YtmljfjmceakahaaLRefC
namespace Go.Proofs.Ytmljfjmceakahaa
open Go.RowKit
set_option linter.unusedVariables false
set_option linter.unusedSimpArgs false

theorem rlput_no (w : World) (B : Nat) (A : Option Addr) (n c : Nat) (es : List LE) (h : RLEnts w B A n es) (hBw : B ≤ w.heap.size) (hn : n ≤ 1000000) (hsh : LSh es) (S : Int) (hno : ¬ LRight es S) :
    Calls Try.prog 30 #[.slice A n c, .int .i64 S] w fun e w' => e = .returned (.tuple #[.string (st []), .int .i64 1]) ∧ Below w.heap.size w w' := by
  go_enter Try.func30, Try.ntmps30
  go_wp2_with fail
  refine (rlright_any w B A n c es h hBw hn hsh S).mono ?_
  rintro e w1 ⟨b, rfl, hb, hb1⟩
  have hbf : b = false := by
    cases b with
    | false => rfl
    | true => exact absurd (hb.1 rfl) hno
  subst hbf
  clear hb
  go_wp2_with fail
  go_ret2
  exact ⟨rfl, hb1⟩

theorem rlput_full (w : World) (B : Nat) (A : Option Addr) (n c : Nat) (es : List LE) (h : RLEnts w B A n es) (hBw : B ≤ w.heap.size) (hn : n ≤ 1000000) (hsh : LSh es) (S : Int) (hR : LRight es S) (hF : S < (lFill es : Int)) :
    Calls Try.prog 30 #[.slice A n c, .int .i64 S] w fun e w' => e = .returned (.tuple #[.string (st []), .int .i64 21]) ∧ Below w.heap.size w w' := by
  obtain ⟨F, hFF⟩ : ∃ F, lFill es = F := ⟨_, rfl⟩
  have hfill : ∀ W, Below B w W → Calls Try.prog 34 #[.slice A n c] W fun e w' => e = .returned (.int .i64 (F : Int)) ∧ Below W.heap.size W w' := fun W hW => by
    rw [← hFF]
    exact rlfill_any W B A n c es (h.below hW) (Nat.le_trans hBw hW.size) hn hsh
  rw [hFF] at hF
  have hFd : decide (S < (F : Int)) = true := decide_eq_true hF
  go_enter Try.func30, Try.ntmps30
  go_wp2_with fail
  refine (rlright_any w B A n c es h hBw hn hsh S).mono ?_
  rintro e w1 ⟨b, rfl, hb, hb1⟩
  have hbt : b = true := hb.2 hR
  subst hbt
  clear hb hR hFF
  go_wp2_with fail
  refine (hfill w1 (hb1.mono hBw)).mono ?_
  rintro e w2 ⟨rfl, hb2'⟩
  have hb2 := hb1.trans (hb2'.mono hb1.size)
  clear hfill
  go_wp2_with fail
  go_ret2
  exact ⟨rfl, hb2⟩

/-- What is short in a page's entries. -/
theorem LRight.sh {es : List LE} {S : Int} (h : LRight es S) : (∀ e ∈ es, LOk e S) ∧ LSh es ∧ es.length ≤ lFill es := by
  have hok : ∀ e ∈ es, LOk e S := by
    intro e he
    obtain ⟨i, hi, rfl⟩ := List.getElem_of_mem he
    exact (h.2.2 i hi es[i] (List.getElem?_eq_getElem hi)).1
  refine ⟨hok, fun e he => ?_, by have := pFill_sum es h; omega⟩
  have h0 := h.2.1
  have h1 := (hok e he).2.2.1
  have h2 := (hok e he).2.1
  have h3 := (hok e he).2.2.2
  unfold lLong at h1
  refine ⟨by omega, ?_⟩
  split at h1
  · rename_i hf
    rw [if_pos hf] at h3
    omega
  · omega

set_option maxRecDepth 100000 in
set_option maxHeartbeats 2000000 in
theorem rlput_ok (w : World) (B : Nat) (A : Option Addr) (n c : Nat) (es : List LE) (h : RLEnts w B A n es) (hBw : B ≤ w.heap.size) (hn : n ≤ 1000) (size : Nat) (hR : LRight es (size : Int)) (hF : lFill es ≤ size) :
    Calls Try.prog 30 #[.slice A n c, .int .i64 (size : Int)] w fun e w' => e = .returned (.tuple #[.string (st (lPut es size)), .int .i64 0]) ∧ Below w.heap.size w w' := by
  have hs1 : 512 ≤ size := by have := hR.1; omega
  have hs2 : size ≤ 4096 := by have := hR.2.1; omega
  obtain ⟨hok, hsh, _⟩ := hR.sh
  obtain ⟨F, hFF⟩ : ∃ F, lFill es = F := ⟨_, rfl⟩
  have hfill : ∀ W, Below B w W → Calls Try.prog 34 #[.slice A n c] W fun e w' => e = .returned (.int .i64 (F : Int)) ∧ Below W.heap.size W w' := fun W hW => by
    rw [← hFF]
    exact rlfill_any W B A n c es (h.below hW) (Nat.le_trans hBw hW.size) (by omega) hsh
  have hright : ∀ W, Below B w W → Calls Try.prog 32 #[.slice A n c, .int .i64 (size : Int)] W fun e w' => e = .returned (.bool true) ∧ Below W.heap.size W w' := fun W hW => by
    refine (rlright_any W B A n c es (h.below hW) (Nat.le_trans hBw hW.size) (by omega) hsh (size : Int)).mono ?_
    rintro e w' ⟨b, rfl, hb, hbl⟩
    rw [hb.2 hR]
    exact ⟨rfl, hbl⟩
  rw [hFF] at hF
  obtain ⟨cs, hcs⟩ : ∃ cs, es.map lCell = cs := ⟨_, rfl⟩
  have hcl : cs.length = n := by rw [← hcs, List.length_map, h.1]
  have hFp : pFill cs = F := by rw [← hFF, lFill_p, hcs]
  have hput : lPut es size = pPut 1 cs size := by rw [lPut, hcs]
  rw [hput]
  have hFd : decide ((size : Int) < (F : Int)) = false := decide_eq_false (by omega)
  have HFF := Lib.hid hFp
  have HCS := Lib.hid hcs
  have HN := Lib.hid hcl
  clear hFF hR hFp hput hcs hcl hsh
  go_enter Try.func30, Try.ntmps30
  go_wp2_with fail
  refine (hright w (Below.refl _ _)).mono ?_
  rintro e w1 ⟨rfl, hb1⟩
  go_wp2_with fail
  refine (hfill w1 (hb1.mono hBw)).mono ?_
  rintro e w2 ⟨rfl, hb2'⟩
  have hb2 := hb1.trans (hb2'.mono hb1.size)
  clear hb1 hb2' hright hfill
  have hxn : IntKind.u64.wrap (n : Int) = (n : Int) := IntWalk.u64_in _ (by omega)
  go_wp2_with fail
  refine (refnum_i _ _ _ (by omega) (by omega) (by omega) (by omega)).mono ?_
  rintro e w3 ⟨s3, rfl, hs3, hs3a, hs3b, hb3'⟩
  have hb3 := hb2.trans (hb3'.mono hb2.size)
  have hs3c : s3.size ≤ 2 := by have := hs3b; simpa using this
  have hs3d : 2 ≤ s3.size := by have := hs3a; simpa using this
  obtain ⟨S0, hS0⟩ : ∃ S0 : ByteArray, (⟨#[1, 0]⟩ : ByteArray) ++ s3 = S0 := ⟨_, rfl⟩
  have hS0s : Hid (S0 = st (pPl 1 cs size 0)) := Lib.hid <| by
    rw [← hS0, hs3.out, show (⟨#[1, 0]⟩ : ByteArray) = st [1, 0] from rfl, st_append]
    simp [pPl, HN.out]
    rfl
  have hS0l : S0.size ≤ 4 := by rw [hS0s.out, st_size, pPl_length]; omega
  have hS0g : 4 ≤ S0.size := by rw [hS0s.out, st_size, pPl_length]; omega
  clear hb2 hb3' hs3 hs3a hs3b hxn
  go_wp2_with fail
  have hz3 := hb3.size
  go_loopw [8, 9, 10] (fun s c i wr => ∃ (k : Nat) (S C : ByteArray), k ≤ n ∧ s = .string S ∧ c = .string C ∧ i = .int .i64 (k : Int) ∧ Hid (S = st (pPl 1 cs size k)) ∧ Hid (C = st (pCells (cs.take k))) ∧ S.size ≤ 4 + 2 * k ∧ C.size ≤ size ∧ Below w.heap.size w wr) (fun _ _ i _ => n - (intOf i).toNat)
  case atStart => exact ⟨0, _, _, Nat.zero_le _, rfl, rfl, rfl, hS0s, Lib.hid rfl, by omega, Nat.zero_le _, hb3⟩
  case round =>
    obtain ⟨k, S, C, hkn, rfl, rfl, rfl, hS, hC, hSl, hCl, hbw⟩ := hrel
    by_cases hlt : k < n
    · obtain ⟨e, ad, he, ho, rfl, hl⟩ := (h.below (hbw.mono hBw)).at_ hlt
      have hbs := hbw.size
      obtain ⟨a0, a1, a2, a3⟩ := hl.cells
      have hoke := hok e (List.mem_of_getElem? he)
      have hcell := fun W => rcell_any W e ho (size : Int) (by omega) hoke
      have hlen : (lCell e).length ≤ 1100 := by rw [lCell_length]; have := hoke.2.2.1; omega
      have hcsk : cs[k]? = some (lCell e) := by rw [← HCS.out, List.getElem?_map, he]; rfl
      obtain ⟨Ce, hCe⟩ : ∃ Ce, st (lCell e) = Ce := ⟨_, rfl⟩
      rw [hCe] at hcell
      obtain ⟨le, hle⟩ : ∃ le, Ce.size = le := ⟨_, rfl⟩
      have hle2 : le ≤ 1100 := by rw [← hle, ← hCe, st_size]; exact hlen
      generalize st e.key = tk at a0 hcell
      generalize st e.val = tv at a1 hcell
      have HCE := Lib.hid hCe
      have HK := Lib.hid hcsk
      obtain ⟨cl, hcl⟩ : ∃ cl, C.size = cl := ⟨_, rfl⟩
      rw [hcl] at hCl
      have q1 : ¬ 9223372036854775807 < le + cl := by omega
      clear hCe he hcsk hl hoke hlen
      go_wp2_with fail
      refine (hcell _).mono ?_
      rintro r w4 ⟨rfl, hb4'⟩
      have hbn2 := hbw.trans (hb4'.mono hbs)
      obtain ⟨C2, hC2⟩ : ∃ C2 : ByteArray, Ce ++ C = C2 := ⟨_, rfl⟩
      have hC2s : C2 = st (pCells (cs.take (k + 1))) := by
        rw [← hC2, take_succ_some HK.out, pCells_snoc, hC.out, ← HCE.out, st_append]
      have hcl2s : le + cl ≤ size := by
        have h1 := pCells_length (cs.take (k + 1))
        have h2 := pFill_le cs (k + 1)
        rw [HFF.out] at h2
        have h3 : C2.size = le + cl := by rw [← hC2, ByteArray.size_append, hle, hcl]
        rw [← h3, hC2s, st_size]
        omega
      obtain ⟨z2, hz2⟩ : ∃ z2, le + cl = z2 := ⟨_, rfl⟩
      obtain ⟨E2, hE2⟩ : ∃ E2, size - z2 = E2 := ⟨_, rfl⟩
      have hsub : (size : Int) - ((le : Int) + (cl : Int)) = (E2 : Int) := by omega
      have hxE : IntKind.u64.wrap (E2 : Int) = (E2 : Int) := IntWalk.u64_in _ (by omega)
      have hC2z : C2.size = z2 := by rw [← hC2, ByteArray.size_append, hle, hcl, hz2]
      have HC2 := Lib.hid hC2s
      have HC2' := Lib.hid hC2
      have HE2 := Lib.hid hE2
      have HC2Z := Lib.hid hC2z
      have hz2s : z2 ≤ size := by omega
      clear hC2 hC2s hE2 hb4' hcell a0 a1 a2 a3 hz2 hC2z
      go_wp2_with fail
      refine (refnum_i _ _ _ (by omega) (by omega) (by omega) (by omega)).mono ?_
      rintro e w5 ⟨s5, rfl, hs5, hs5a, hs5b, hb5'⟩
      have hb5 := hbn2.trans (hb5'.mono hbn2.size)
      have hs5c : s5.size ≤ 2 := by have := hs5b; simpa using this
      have q4 : ¬ 9223372036854775807 < S.size + s5.size := by omega
      obtain ⟨S2, hS2⟩ : ∃ S2 : ByteArray, S ++ s5 = S2 := ⟨_, rfl⟩
      have hS2s : S2 = st (pPl 1 cs size (k + 1)) := by
        rw [← hS2, hS.out, hs5.out, st_append, pPl_succ]
        have : (E2 : Int).toNat = size - (pCells (cs.take (k + 1))).length := by
          rw [Int.toNat_natCast, ← HE2.out, ← HC2Z.out, HC2.out, st_size]
        rw [this]
        rfl
      have hS2l : S2.size ≤ 4 + 2 * (k + 1) := by rw [hS2s, st_size, pPl_length]; omega
      have HS2 := Lib.hid hS2s
      have hC2l : C2.size ≤ size := by rw [HC2Z.out]; exact hz2s
      have HS2' := Lib.hid hS2
      clear hS2s hs5 hs5a hs5b hbn2 hb5' hS2
      go_wp2_with fail
      exact ⟨⟨k + 1, S2, C2, hlt, by rw [← HS2'.out], by rw [← HC2'.out], by go_num, HS2, HC2, hS2l, hC2l, hb5⟩, by simp [intOf]; omega⟩
    · obtain rfl : k = n := by omega
      have htk : cs.take k = cs := List.take_of_length_le (by rw [HN.out]; exact Nat.le_refl _)
      rw [htk] at hC
      have h1 := pCells_length cs
      rw [HFF.out, HN.out] at h1
      have hSs : S.size = 4 + 2 * k := by rw [hS.out, st_size, pPl_length]
      have hCs : C.size = (pCells cs).length := by rw [hC.out, st_size]
      obtain ⟨sl, hsl⟩ : ∃ sl, S.size = sl := ⟨_, rfl⟩
      obtain ⟨cl, hcl⟩ : ∃ cl, C.size = cl := ⟨_, rfl⟩
      obtain ⟨Z, hZ⟩ : ∃ Z, size - sl - cl = Z := ⟨_, rfl⟩
      have hZF : Z = size - F := by omega
      have hZl : Z ≤ 4096 := by omega
      have hsub1 : (size : Int) - (sl : Int) - (cl : Int) = (Z : Int) := by omega
      have hbs := hbw.size
      have q1 : ¬ 9223372036854775807 < sl + Z := by omega
      have q2 : ¬ 9223372036854775807 < sl + Z + cl := by omega
      have HZ := Lib.hid hZF
      clear h1 hSs hCs hZ hZF
      go_wp2_with (first
        | (at_make; refine wpList_make_bytesN _ rfl _ _ _ rfl Try.underlying23 info_u8 _ _ _ rfl rfl Z (by omega) (by omega) ?_; intro w9 hr9 hb9'; have hcv := string_of_sl (P := Try.prog) Try.underlying23 Try.underlying5 Try.underlying9 (hr9.slN (n := Z) (by simp) (by omega))))
      go_ret2
      have hst : (S ++ ⟨Array.replicate Z 0⟩ ++ C : ByteArray) = st (pPut 1 cs size) := by
        rw [hS.out, hC.out, show (⟨Array.replicate Z 0⟩ : ByteArray) = st (List.replicate Z 0) from by simp [st]]
        simp only [st_append]
        unfold pPut
        rw [HN.out, HZ.out, HFF.out]
      exact ⟨congrArg (fun s => Ending.returned (.tuple #[.string s, .int .i64 0])) hst, hbw.trans (hb9'.mono hbs)⟩

end Go.Proofs.Ytmljfjmceakahaa
