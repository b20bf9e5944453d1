/- Layer 7's reference: Put. -/
import Derived.Test.YtpipgeboddaipaaMetaT
namespace Go.Proofs.Ytpipgeboddaipaa
open Go.RowKit
set_option linter.unusedVariables false
set_option linter.unusedSimpArgs false

/-- A box of four cells that stays, and what lies below the first world. -/
def HC (W : World) (G : Nat) (t : TypeId) (a b c d : Value) (w : World) : Prop := w.heap[G]? = some (.cells #[a, b, c, d] t (0, 0)) ∧ Below W.heap.size W w
theorem HC.below {W : World} {G : Nat} {t : TypeId} {a b c d : Value} {w w' : World} (hb : Below w.heap.size w w') (h : HC W G t a b c d w) : HC W G t a b c d w' :=
  ⟨blk_below h.1 hb (blk_lt h.1), h.2.trans (hb.mono h.2.size)⟩
theorem HC.drew {W : World} {G : Nat} {t : TypeId} {a b c d : Value} {w : World} (h : HC W G t a b c d w) : HC W G t a b c d w.drew := ⟨h.1, h.2.drew⟩
theorem HC.all {W : World} {G : Nat} {t : TypeId} {a b c d : Value} {w : World} (h : HC W G t a b c d w) : w.cell? ⟨G, 0, none⟩ = some a ∧ w.cell? ⟨G, 1, none⟩ = some b ∧ w.cell? ⟨G, 2, none⟩ = some c ∧ w.cell? ⟨G, 3, none⟩ = some d := (cell4 h.1).1

theorem refcrc_s (w : World) (s : ByteArray) (l : List UInt8) (hs : Hid (s = st l)) (hn : l.length ≤ 140737488355328) :
    Calls Try.prog 29 #[.string s] w fun e w' => e = .returned (.int .u32 (crcOf l : Nat)) ∧ w = w' := by
  rw [hs.out]
  exact refcrc_any w l hn

theorem refnum_j (w : World) (X S : Int) (hX : 0 ≤ X) (hX' : X ≤ 18446744073709551615) (h1 : 1 ≤ S) (h8 : S ≤ 8) :
    Calls Try.prog 28 #[.int .u64 X, .int .i64 S] w fun e w' => e = .returned (.string (st (numB X.toNat S.toNat))) ∧ Below w.heap.size w w' := by
  obtain ⟨x, rfl⟩ := Int.eq_ofNat_of_zero_le hX
  obtain ⟨s, rfl⟩ := Int.eq_ofNat_of_zero_le (show 0 ≤ S by omega)
  exact refnum_any w x (by omega) s (by omega) (by omega)

set_option maxRecDepth 20000 in
set_option maxHeartbeats 2000000 in
theorem rput_ok (w : World) (t e m f size : Nat) (ht : t < 18446744073709551616) (he : e < 4294967296) (hm : m < 4294967296) (hf : f < 4294967296) (hR : MRight t e m f) (h1 : 512 ≤ size) (h2 : size ≤ 4096) :
    Calls Try.prog 13 #[.agg #[.int .u64 (t : Int), .int .u32 (e : Int), .int .u32 (m : Int), .int .u32 (f : Int)], .int .i64 (size : Int)] w fun r w' => r = .returned (.tuple #[.string (st (mPut t e m f size)), .int .i64 0]) ∧ Below w.heap.size w w' := by
  have hright := refright_any (w.alloc (.cells #[.int .u64 (t : Int), .int .u32 (e : Int), .int .u32 (m : Int), .int .u32 (f : Int)] 30)) t e m f ht he hm hf
  rw [decide_eq_true hR] at hright
  have hc0 : HC w w.heap.size 30 (.int .u64 (t : Int)) (.int .u32 (e : Int)) (.int .u32 (m : Int)) (.int .u32 (f : Int)) (w.alloc (.cells #[.int .u64 (t : Int), .int .u32 (e : Int), .int .u32 (m : Int), .int .u32 (f : Int)] 30)) :=
    ⟨heap_alloc_new w _, (Below.refl _ _).alloc (Nat.le_refl _) _⟩
  have d1 : decide ((size : Int) < 512) = false := decide_eq_false (by omega)
  have d2 : decide (4096 < (size : Int)) = false := decide_eq_false (by omega)
  go_enter Try.func13, Try.ntmps13
  go_wp2_with fail
  refine hright.mono ?_
  rintro r w1 ⟨rfl, hb1⟩
  have hc1 := HC.below hb1 hc0
  obtain ⟨a0, a1, a2, a3⟩ := hc1.all
  have hc1d := hc1.drew
  have hsw : IntKind.u64.wrap (size : Int) = (size : Int) := IntWalk.u64_in _ (by omega)
  have hew : IntKind.u64.wrap (e : Int) = (e : Int) := IntWalk.u64_in _ (by omega)
  have hmw : IntKind.u64.wrap (m : Int) = (m : Int) := IntWalk.u64_in _ (by omega)
  have hfw : IntKind.u64.wrap (f : Int) = (f : Int) := IntWalk.u64_in _ (by omega)
  have hnl := numB_length
  clear hright hc0 hb1
  go_wp2_with fail
  go_region_held3 (fun w' => w'.cell? ⟨w.heap.size, 0, none⟩ = some (.int .u64 (t : Int)) ∧ w'.cell? ⟨w.heap.size, 1, none⟩ = some (.int .u32 (e : Int)) ∧ w'.cell? ⟨w.heap.size, 2, none⟩ = some (.int .u32 (m : Int)) ∧ w'.cell? ⟨w.heap.size, 3, none⟩ = some (.int .u32 (f : Int))) (exact HC.all (by assumption)) (first | (go_at_call 28; refine (refnum_j _ _ _ (by omega) (by omega) (by omega) (by omega)).mono ?_; rintro r wn ⟨rfl, hbn⟩; have hcn := HC.below hbn (by assumption)))
  have hj : (⟨#[82, 85, 66, 49]⟩ ++ st (numB size 4) ++ st (numB t 8) ++ st (numB e 4) ++ st (numB m 4) ++ st (numB f 4) : ByteArray) = st (msum t e m f size) := by
    rw [show (⟨#[82, 85, 66, 49]⟩ : ByteArray) = st [82, 85, 66, 49] from rfl]
    simp only [st_append]
    simp [msum, mhead, pgs]
  rw [hj]
  have hbn' := hcn.2
  clear hj hc1 hc1d a0 a1 a2 a3 hsw hew hmw hfw
  have hfin : mPut t e m f size = msum t e m f size ++ numB (crcOf (msum t e m f size)) 4 ++ List.replicate (size - 32) 0 := rfl
  have hsl : (msum t e m f size).length = 28 := msum_length t e m f size
  obtain ⟨H, hH⟩ : ∃ H, msum t e m f size = H := ⟨_, rfl⟩
  rw [hH] at hfin hsl ⊢
  have HFIN := Lib.hid hfin
  have HSL := Lib.hid hsl
  have hHl : H.length ≤ 28 := by omega
  clear hfin hsl hH hcn
  go_wp2_with fail
  refine (refcrc_any _ H (by omega)).mono ?_
  rintro r w7 ⟨rfl, rfl⟩
  have hcl := crcOf_lt H
  obtain ⟨X, hX⟩ : ∃ X, crcOf H = X := ⟨_, rfl⟩
  rw [hX] at hcl ⊢
  have HXC := Lib.hid hX
  have hxw : IntKind.u64.wrap (X : Int) = (X : Int) := IntWalk.u64_in _ (by omega)
  clear hX
  go_wp2_with fail
  refine (refnum_j _ _ _ (by omega) (by omega) (by omega) (by omega)).mono ?_
  rintro r w8 ⟨rfl, hb8'⟩
  have hb8 := hbn'.trans (hb8'.mono hbn'.size)
  clear hbn' hb8'
  have hs28 : (0 : Int) ≤ (size : Int) - 32 := by omega
  go_wp2_with (first
    | (at_make; refine wpList_make_bytesN _ rfl _ _ _ rfl Try.underlying33 info_u8 _ _ _ rfl rfl (size - 32) (by omega) (by omega) ?_; intro w9 hr9 hb9'; have hcv := string_of_sl (P := Try.prog) Try.underlying33 Try.underlying5 Try.underlying9 (hr9.slN (n := size - 32) (by simp) (by omega))))
  go_ret2
  have hst : (st H ++ st (numB X 4) ++ ⟨Array.replicate (size - 32) 0⟩ : ByteArray) = st (mPut t e m f size) := by
    rw [HFIN.out, HXC.out, show (⟨Array.replicate (size - 32) 0⟩ : ByteArray) = st (List.replicate (size - 32) 0) from by simp [st]]
    simp only [st_append]
  exact ⟨congrArg (fun s => Ending.returned (.tuple #[.string s, .int .i64 0])) hst, hb8.trans (hb9'.mono hb8.size)⟩

theorem rput_no (w : World) (t e m f : Nat) (size : Int) (ht : t < 18446744073709551616) (he : e < 4294967296) (hm : m < 4294967296) (hf : f < 4294967296) (hno : ¬ (MRight t e m f ∧ 512 ≤ size ∧ size ≤ 4096)) :
    Calls Try.prog 13 #[.agg #[.int .u64 (t : Int), .int .u32 (e : Int), .int .u32 (m : Int), .int .u32 (f : Int)], .int .i64 size] w fun r w' => r = .returned (.tuple #[.string (st []), .int .i64 1]) ∧ Below w.heap.size w w' := by
  have hright := refright_any (w.alloc (.cells #[.int .u64 (t : Int), .int .u32 (e : Int), .int .u32 (m : Int), .int .u32 (f : Int)] 30)) t e m f ht he hm hf
  have hb0 : Below w.heap.size w (w.alloc (.cells #[.int .u64 (t : Int), .int .u32 (e : Int), .int .u32 (m : Int), .int .u32 (f : Int)] 30)) := (Below.refl _ _).alloc (Nat.le_refl _) _
  by_cases hR : MRight t e m f
  · rw [decide_eq_true hR] at hright
    by_cases h1 : size < 512
    · have d1 : decide (size < 512) = true := decide_eq_true h1
      clear hno
      go_enter Try.func13, Try.ntmps13
      go_wp2_with (first | (go_at_call 15; refine hright.mono ?_; rintro r w1 ⟨rfl, hb1'⟩))
      go_ret2
      exact ⟨rfl, hb0.trans (hb1'.mono hb0.size)⟩
    · have h2 : 4096 < size := by
        have : ¬ (512 ≤ size ∧ size ≤ 4096) := fun h => hno ⟨hR, h⟩
        omega
      have d1 : decide (size < 512) = false := decide_eq_false h1
      have d2 : decide (4096 < size) = true := decide_eq_true h2
      clear hno
      go_enter Try.func13, Try.ntmps13
      go_wp2_with (first | (go_at_call 15; refine hright.mono ?_; rintro r w1 ⟨rfl, hb1'⟩))
      go_ret2
      exact ⟨rfl, hb0.trans (hb1'.mono hb0.size)⟩
  · rw [decide_eq_false hR] at hright
    clear hno hR
    go_enter Try.func13, Try.ntmps13
    go_wp2_with (first | (go_at_call 15; refine hright.mono ?_; rintro r w1 ⟨rfl, hb1'⟩))
    go_ret2
    exact ⟨rfl, hb0.trans (hb1'.mono hb0.size)⟩

end Go.Proofs.Ytpipgeboddaipaa
