/- The references' reading (layer 1): Raw, ReadNum. -/
import Derived.Test.YthmkmojlnfkfjaaRefNn
import Derived.Deep.RegionHeld3
namespace Go.Proofs.Ythmkmojlnfkfjaa
open Go.RowKit
set_option linter.unusedVariables false
set_option linter.unusedSimpArgs false

theorem st_size (l : List UInt8) : (st l).size = l.length := by simp [ByteArray.size]
theorem st_extract (l : List UInt8) (a b : Nat) : (st l).extract a b = st ((l.take b).drop a) := by
  apply ByteArray.ext
  simp [ByteArray.data_extract]
  rw [List.drop_take]

theorem refraw_ok (w : World) (l : List UInt8) (n : Nat) (h : n ≤ l.length) (hl : l.length ≤ 140737488355328) :
    Calls Try.prog 55 #[.agg #[.string (st l), .int .i64 0], .int .i64 (n : Int)] w fun e w' => e = .returned (.tuple #[.agg #[.string (st (l.drop n)), .int .i64 0], .string (st (l.take n))]) ∧ Below w.heap.size w w' := by
  obtain ⟨s, hs⟩ : ∃ s, st l = s := ⟨_, rfl⟩
  have hsz : s.size = l.length := by rw [← hs, st_size]
  have hn : n ≤ s.size := by omega
  have hsm : s.size ≤ 140737488355328 := by omega
  have hn0 : (0 : Int) ≤ (n : Int) := by omega
  have hn1 : (n : Int) ≤ (s.size : Int) := by omega
  rw [hs]
  have HS := Lib.hid hs
  have HSZ := Lib.hid hsz
  clear hs hsz
  go_enter Try.func55, Try.ntmps55
  go_wp2_with fail
  go_region_held3 (fun w' => w'.cell? ⟨w.heap.size, 0, none⟩ = some (.string s)) (go_keep) (fail)
  go_wp2
  have e1 : s.extract n s.size = st (l.drop n) := by rw [← HS.out, st_extract, st_size, List.take_of_length_le (Nat.le_refl _)]
  have e2 : s.extract 0 n = st (l.take n) := by rw [← HS.out, st_extract, List.drop_zero]
  rw [e1, e2]
  exact bodyPost_ret (v := .tuple #[.agg #[.string (st (l.drop n)), .int .i64 0], .string (st (l.take n))]) (by simp [results, Try.results55, go_sem]) rfl
    ⟨rfl, (((Below.refl _ _).alloc (Nat.le_refl _) _).alloc (by simp) _).drew⟩

theorem refread_ok (w : World) (l : List UInt8) (sz : Nat) (h1 : 1 ≤ sz) (h8 : sz ≤ 8) (h : sz ≤ l.length) (hl : l.length ≤ 140737488355328) :
    Calls Try.prog 51 #[.agg #[.string (st l), .int .i64 0], .int .i64 (sz : Int)] w fun e w' => e = .returned (.tuple #[.agg #[.string (st (l.drop sz)), .int .i64 0], .int .u64 (be (l.take sz) : Nat)]) ∧ Below w.heap.size w w' := by
  have h1b : decide ((sz : Int) < 1) = false := decide_eq_false (by omega)
  have h8b : decide (8 < (sz : Int)) = false := decide_eq_false (by omega)
  have hraw := fun w => refraw_ok w l sz h hl
  obtain ⟨m, hm⟩ : ∃ m, l.take sz = m := ⟨_, rfl⟩
  have hml : m.length = sz := by rw [← hm, List.length_take]; omega
  rw [hm] at hraw
  rw [hm]
  have HRAW := Lib.hid hraw
  have HML := Lib.hid hml
  clear hraw hm hml h
  go_enter Try.func51, Try.ntmps51
  go_wp2_with fail
  refine (HRAW.out _).mono ?_
  rintro e w1 ⟨rfl, hb1⟩
  have hk0 : w1.heap[w.heap.size]? = some (.cells #[.string (st l), .int .i64 0] 110 (0, 0)) := blk_below (blk_alloc (heap_alloc_new w _) _) hb1 (by simp; omega)
  have hk1 : w1.heap[w.heap.size + 1]? = some (.cells #[.string ⟨#[]⟩, .int .i64 0] 110 (0, 0)) := blk_below (by simpa using heap_alloc_new (w.alloc (.cells #[.string (st l), .int .i64 0] 110)) _) hb1 (by simp)
  obtain ⟨c00, c01, f00, f01⟩ := blk2 hk0
  obtain ⟨c10, c11, f10, f11⟩ := blk2 hk1
  have hlt := blk_lt hk1
  have hb0 : Below w.heap.size w w1 := (((Below.refl _ _).alloc (Nat.le_refl _) _).alloc (by simp) _).trans (hb1.mono (by simp; omega))
  clear hb1 HRAW
  go_wp2_with fail
  obtain ⟨w2, hw2⟩ : ∃ w2, (w1.setCell ⟨w.heap.size, 0, none⟩ (.string (st (l.drop sz)))).setCell ⟨w.heap.size, 1, none⟩ (.int .i64 0) = w2 := ⟨_, rfl⟩
  obtain ⟨d00, d01, _, _⟩ := blk2 (w := w2) (by rw [← hw2]; exact blk2_set hk0 _ _)
  have hk2 : w2.heap[w.heap.size + 1]? = some (.cells #[.string ⟨#[]⟩, .int .i64 0] 110 (0, 0)) := by
    rw [← hw2]; exact blk_far (blk_far hk1 (by simp) _) (by simp) _
  have hb2 : Below w.heap.size w w2 := by rw [← hw2]; exact (hb0.setCell (by simp) _).setCell (by simp) _
  rw [hw2]
  clear hw2 c00 c01 f00 f01 c10 c11 f10 f11 hk0 hk1 hb0 hlt
  obtain ⟨d10, d11, e10, e11⟩ := blk2 hk2
  have hsz : m.length ≤ sz := by rw [HML.out]; exact Nat.le_refl _
  have hsz' : sz ≤ m.length := by rw [HML.out]; exact Nat.le_refl _
  go_loop [7, 8] (fun x i => ∃ k : Nat, k ≤ sz ∧ i = .int .i64 k ∧ x = .int .u64 (be (m.take k) : Nat)) (fun _ i => sz - (intOf i).toNat)
  case atStart => exact ⟨0, Nat.zero_le _, rfl, by simp [be]⟩
  case round =>
    obtain ⟨k, hk, rfl, rfl⟩ := hrel
    by_cases hlt : k < sz
    · have hidx : m[k]? = some m[k] := List.getElem?_eq_getElem (by omega)
      have hbl := be_lt (m.take k)
      have hpw : 256 ^ (m.take k).length ≤ 256 ^ 7 := Nat.pow_le_pow_right (by decide) (by rw [List.length_take]; omega)
      have HB := Lib.hid (Nat.lt_of_lt_of_le hbl hpw)
      have HU := Lib.hid hidx
      clear hbl hpw hidx
      go_wp2
      refine ⟨⟨k + 1, by omega, by go_num, ?_⟩, by simp [intOf]; omega⟩
      have hb' := HB.out
      have hu := (m[k]'(by omega)).toNat_lt
      rw [take_snoc HU.out, be_snoc]
      show Value.int IntKind.u64 (IntKind.u64.wrap (IntKind.u64.wrap (((be (m.take k) : Nat) : Int) * 256) + IntKind.u64.wrap (((m[k]'(by omega)).toNat : Nat) : Int))) = _
      rw [IntWalk.u64_in (((be (m.take k) : Nat) : Int) * 256) (by omega), IntWalk.u64_in (((m[k]'(by omega)).toNat : Nat) : Int) (by omega), IntWalk.u64_in _ (by omega)]
      congr 1
    · have hks : k = sz := by omega
      subst hks
      go_wp2
      have htk : m.take k = m := List.take_of_length_le (by omega)
      rw [htk]
      exact bodyPost_ret (v := .tuple #[.agg #[.string (st (l.drop k)), .int .i64 0], .int .u64 (be m : Nat)]) (by simp [results, Try.results51, go_sem, d10, d11, e10, e11]) rfl
        ⟨rfl, (hb2.setCell (by simp) _).setCell (by simp) _⟩

theorem refread_i (w : World) (s : ByteArray) (l : List UInt8) (S : Int) (hs : s = st l) (h1 : 1 ≤ S) (h8 : S ≤ 8) (h : S ≤ l.length) (hl : l.length ≤ 140737488355328) :
    Calls Try.prog 51 #[.agg #[.string s, .int .i64 0], .int .i64 S] w fun e w' => ∃ (x : Nat) (r : ByteArray), e = .returned (.tuple #[.agg #[.string r, .int .i64 0], .int .u64 (x : Int)]) ∧ Hid (x = be (l.take S.toNat)) ∧ x < 256 ^ S.toNat ∧ Below w.heap.size w w' := by
  subst hs
  obtain ⟨sz, rfl⟩ := Int.eq_ofNat_of_zero_le (show 0 ≤ S by omega)
  refine (refread_ok w l sz (by omega) (by omega) (by omega) hl).mono ?_
  rintro e w' ⟨rfl, hb⟩
  refine ⟨_, _, rfl, Lib.hid rfl, Nat.lt_of_lt_of_le (be_lt _) (Nat.pow_le_pow_right (by decide) ?_), hb⟩
  simp only [Int.ofNat_eq_natCast, Int.toNat_natCast, List.length_take]
  omega

end Go.Proofs.Ythmkmojlnfkfjaa
