/- References of layer 1, reading: contracts of Raw and ReadNum; of layer 6: Get. -/
import Derived.Test.YthnehmfpadahiaaChainP
namespace Go.Proofs.Ythnehmfpadahiaa
open Go.RowKit
set_option linter.unusedVariables false
set_option linter.unusedSimpArgs false

theorem st_size (l : List UInt8) : (st l).size = l.length := by simp [ByteArray.size]
theorem st_extract (l : List UInt8) (a b : Nat) : (st l).extract a b = st ((l.take b).drop a) := by
  apply ByteArray.ext
  simp [ByteArray.data_extract]
  rw [List.drop_take]

/-- What Raw leaves, the error, and what it gives. -/
def rawL (l : List UInt8) (e n : Int) : List UInt8 := if e = 0 ∧ 0 ≤ n ∧ n ≤ l.length then l.drop n.toNat else l
def rawE (l : List UInt8) (e n : Int) : Int := if e ≠ 0 then e else if n < 0 then 1 else if (l.length : Int) < n then 10 else 0
def rawS (l : List UInt8) (e n : Int) : List UInt8 := if e = 0 ∧ 0 ≤ n ∧ n ≤ l.length then l.take n.toNat else []

theorem refraw_ok (w : World) (l : List UInt8) (n : Nat) (h : n ≤ l.length) (hl : l.length ≤ 140737488355328) :
    Calls Try.prog 53 #[.agg #[.string (st l), .int .i64 0], .int .i64 (n : Int)] w fun e w' => e = .returned (.tuple #[.agg #[.string (st (l.drop n)), .int .i64 0], .string (st (l.take n))]) ∧ Below w.heap.size w w' := by
  obtain ⟨s, hs⟩ : ∃ s, st l = s := ⟨_, rfl⟩
  have hsz : s.size = l.length := by rw [← hs, st_size]
  have hn : n ≤ s.size := by omega
  have hsm : s.size ≤ 140737488355328 := by omega
  have hn0 : (0 : Int) ≤ (n : Int) := by omega
  have hn1 : (n : Int) ≤ (s.size : Int) := by omega
  rw [hs]
  have HS := Lib.hid hs
  have HSZ := Lib.hid hsz
  clear hs hsz
  go_enter Try.func53, Try.ntmps53
  go_wp2_with fail
  go_region_held3 (fun w' => w'.cell? ⟨w.heap.size, 0, none⟩ = some (.string s)) (go_keep) (fail)
  go_wp2
  have e1 : s.extract n s.size = st (l.drop n) := by rw [← HS.out, st_extract, st_size, List.take_of_length_le (Nat.le_refl _)]
  have e2 : s.extract 0 n = st (l.take n) := by rw [← HS.out, st_extract, List.drop_zero]
  rw [e1, e2]
  exact bodyPost_ret (v := .tuple #[.agg #[.string (st (l.drop n)), .int .i64 0], .string (st (l.take n))]) (by simp [results, Try.results53, go_sem]) rfl
    ⟨rfl, (((Below.refl _ _).alloc (Nat.le_refl _) _).alloc (by simp) _).drew⟩

theorem refread_ok (w : World) (l : List UInt8) (sz : Nat) (h1 : 1 ≤ sz) (h8 : sz ≤ 8) (h : sz ≤ l.length) (hl : l.length ≤ 140737488355328) :
    Calls Try.prog 43 #[.agg #[.string (st l), .int .i64 0], .int .i64 (sz : Int)] w fun e w' => e = .returned (.tuple #[.agg #[.string (st (l.drop sz)), .int .i64 0], .int .u64 (be (l.take sz) : Nat)]) ∧ Below w.heap.size w w' := by
  have h1b : decide ((sz : Int) < 1) = false := decide_eq_false (by omega)
  have h8b : decide (8 < (sz : Int)) = false := decide_eq_false (by omega)
  have hraw := fun w => refraw_ok w l sz h hl
  obtain ⟨m, hm⟩ : ∃ m, l.take sz = m := ⟨_, rfl⟩
  have hml : m.length = sz := by rw [← hm, List.length_take]; omega
  rw [hm] at hraw
  rw [hm]
  have HRAW := Lib.hid hraw
  have HML := Lib.hid hml
  clear hraw hm hml h
  go_enter Try.func43, Try.ntmps43
  go_wp2_with fail
  refine (HRAW.out _).mono ?_
  rintro e w1 ⟨rfl, hb1⟩
  have hk0 : w1.heap[w.heap.size]? = some (.cells #[.string (st l), .int .i64 0] 78 (0, 0)) := blk_below (blk_alloc (heap_alloc_new w _) _) hb1 (by simp; omega)
  have hk1 : w1.heap[w.heap.size + 1]? = some (.cells #[.string ⟨#[]⟩, .int .i64 0] 78 (0, 0)) := blk_below (by simpa using heap_alloc_new (w.alloc (.cells #[.string (st l), .int .i64 0] 78)) _) hb1 (by simp)
  obtain ⟨c00, c01, f00, f01⟩ := blk2 hk0
  obtain ⟨c10, c11, f10, f11⟩ := blk2 hk1
  have hlt := blk_lt hk1
  have hb0 : Below w.heap.size w w1 := (((Below.refl _ _).alloc (Nat.le_refl _) _).alloc (by simp) _).trans (hb1.mono (by simp; omega))
  clear hb1 HRAW
  go_wp2_with fail
  obtain ⟨w2, hw2⟩ : ∃ w2, (w1.setCell ⟨w.heap.size, 0, none⟩ (.string (st (l.drop sz)))).setCell ⟨w.heap.size, 1, none⟩ (.int .i64 0) = w2 := ⟨_, rfl⟩
  obtain ⟨d00, d01, _, _⟩ := blk2 (w := w2) (by rw [← hw2]; exact blk2_set hk0 _ _)
  have hk2 : w2.heap[w.heap.size + 1]? = some (.cells #[.string ⟨#[]⟩, .int .i64 0] 78 (0, 0)) := by
    rw [← hw2]; exact blk_far (blk_far hk1 (by simp) _) (by simp) _
  have hb2 : Below w.heap.size w w2 := by rw [← hw2]; exact (hb0.setCell (by simp) _).setCell (by simp) _
  rw [hw2]
  clear hw2 c00 c01 f00 f01 c10 c11 f10 f11 hk0 hk1 hb0 hlt
  obtain ⟨d10, d11, e10, e11⟩ := blk2 hk2
  have hsz : m.length ≤ sz := by rw [HML.out]; exact Nat.le_refl _
  have hsz' : sz ≤ m.length := by rw [HML.out]; exact Nat.le_refl _
  go_loop [7, 8] (fun x i => ∃ k : Nat, k ≤ sz ∧ i = .int .i64 k ∧ x = .int .u64 (be (m.take k) : Nat)) (fun _ i => sz - (intOf i).toNat)
  case atStart => exact ⟨0, Nat.zero_le _, rfl, by simp [be]⟩
  case round =>
    obtain ⟨k, hk, rfl, rfl⟩ := hrel
    by_cases hlt : k < sz
    · have hidx : m[k]? = some m[k] := List.getElem?_eq_getElem (by omega)
      have hbl := be_lt (m.take k)
      have hpw : 256 ^ (m.take k).length ≤ 256 ^ 7 := Nat.pow_le_pow_right (by decide) (by rw [List.length_take]; omega)
      have HB := Lib.hid (Nat.lt_of_lt_of_le hbl hpw)
      have HU := Lib.hid hidx
      clear hbl hpw hidx
      go_wp2
      refine ⟨⟨k + 1, by omega, by go_num, ?_⟩, by simp [intOf]; omega⟩
      have hb' := HB.out
      have hu := (m[k]'(by omega)).toNat_lt
      rw [take_snoc HU.out, be_snoc]
      show Value.int IntKind.u64 (IntKind.u64.wrap (IntKind.u64.wrap (((be (m.take k) : Nat) : Int) * 256) + IntKind.u64.wrap (((m[k]'(by omega)).toNat : Nat) : Int))) = _
      rw [IntWalk.u64_in (((be (m.take k) : Nat) : Int) * 256) (by omega), IntWalk.u64_in (((m[k]'(by omega)).toNat : Nat) : Int) (by omega), IntWalk.u64_in _ (by omega)]
      congr 1
    · have hks : k = sz := by omega
      subst hks
      go_wp2
      have htk : m.take k = m := List.take_of_length_le (by omega)
      rw [htk]
      exact bodyPost_ret (v := .tuple #[.agg #[.string (st (l.drop k)), .int .i64 0], .int .u64 (be m : Nat)]) (by simp [results, Try.results43, go_sem, d10, d11, e10, e11]) rfl
        ⟨rfl, (hb2.setCell (by simp) _).setCell (by simp) _⟩

theorem refread_i (w : World) (s : ByteArray) (l : List UInt8) (S : Int) (hs : s = st l) (h1 : 1 ≤ S) (h8 : S ≤ 8) (h : S ≤ l.length) (hl : l.length ≤ 140737488355328) :
    Calls Try.prog 43 #[.agg #[.string s, .int .i64 0], .int .i64 S] w fun e w' => ∃ (x : Nat) (r : ByteArray), e = .returned (.tuple #[.agg #[.string r, .int .i64 0], .int .u64 (x : Int)]) ∧ Hid (x = be (l.take S.toNat)) ∧ x < 256 ^ S.toNat ∧ Below w.heap.size w w' := by
  subst hs
  obtain ⟨sz, rfl⟩ := Int.eq_ofNat_of_zero_le (show 0 ≤ S by omega)
  refine (refread_ok w l sz (by omega) (by omega) (by omega) hl).mono ?_
  rintro e w' ⟨rfl, hb⟩
  refine ⟨_, _, rfl, Lib.hid rfl, Nat.lt_of_lt_of_le (be_lt _) (Nat.pow_le_pow_right (by decide) ?_), hb⟩
  simp only [Int.ofNat_eq_natCast, Int.toNat_natCast, List.length_take]
  omega

theorem takeE_ok (l : List UInt8) (n : Nat) (h : n ≤ l.length) : takeE l 0 n = 0 := by
  unfold takeE; rw [if_neg (by omega)]
theorem takeL_ok (l : List UInt8) (n : Nat) (h : n ≤ l.length) : takeL l 0 n = l.take n := by
  have h0 : (if l.length < n then fErr 0 10 else 0) = 0 := takeE_ok l n h
  unfold takeL; rw [if_pos h0]
theorem takeR_ok (l : List UInt8) (n : Nat) (h : n ≤ l.length) : takeR l 0 n = l.drop n := by
  have h0 : (if l.length < n then fErr 0 10 else 0) = 0 := takeE_ok l n h
  unfold takeR; rw [if_pos h0]
theorem takeL_short (l : List UInt8) (n : Nat) (h : l.length < n) : takeL l 0 n = [] := by
  unfold takeL; rw [if_pos h]; simp [fErr]

theorem chN_ok (l : List UInt8) (h : 8 ≤ l.length) : chN l = be ((l.drop 2).take 2) := by
  unfold chN
  rw [takeR_ok _ _ (by omega), takeE_ok _ _ (by omega), takeL_ok _ _ (by rw [List.length_drop]; omega)]
theorem chR2_ok (l : List UInt8) (h : 8 ≤ l.length) : chR2 l = l.drop 4 ∧ chE2 l = 0 := by
  unfold chR2 chE2
  rw [takeR_ok _ _ (by omega), takeE_ok _ _ (by omega), takeR_ok _ _ (by rw [List.length_drop]; omega), takeE_ok _ _ (by rw [List.length_drop]; omega), List.drop_drop]
  exact ⟨rfl, rfl⟩
theorem chX_ok (l : List UInt8) (h : 8 ≤ l.length) : chX l = be ((l.drop 4).take 4) := by
  unfold chX
  rw [(chR2_ok l h).1, (chR2_ok l h).2, takeL_ok _ _ (by rw [List.length_drop]; omega)]
theorem chPart_ok (l : List UInt8) (h : 8 ≤ l.length) (hn : chN l + 8 ≤ l.length) : chPart l = (l.drop 8).take (chN l) := by
  unfold chPart
  rw [(chR2_ok l h).1, (chR2_ok l h).2, takeR_ok _ _ (by rw [List.length_drop]; omega), takeE_ok _ _ (by rw [List.length_drop]; omega), List.drop_drop, takeL_ok _ _ (by rw [List.length_drop]; omega)]
theorem chPart_no (l : List UInt8) (h : 8 ≤ l.length) (hn : ¬ chN l + 8 ≤ l.length) : chPart l = [] := by
  unfold chPart
  rw [(chR2_ok l h).1, (chR2_ok l h).2, takeR_ok _ _ (by rw [List.length_drop]; omega), takeE_ok _ _ (by rw [List.length_drop]; omega), List.drop_drop, takeL_short _ _ (by rw [List.length_drop]; omega)]

def RGetPost (w : World) (l : List UInt8) (e : Ending) (w' : World) : Prop :=
  Below w.heap.size w w' ∧ match chGet l with
    | some (p, x) => e = .returned (.tuple #[.string (st p), .int .u32 (x : Int), .int .i64 0])
    | none => e = .returned (.tuple #[.string (st []), .int .u32 0, .int .i64 11])

theorem refget_out (w : World) (l : List UInt8) (hl : l.length ≤ 140737488355328) (ho : ¬ (512 ≤ l.length ∧ l.length ≤ 4096)) :
    Calls Try.prog 18 #[.string (st l)] w (RGetPost w l) := by
  have hg : chGet l = none := by unfold chGet; rw [if_neg]; rintro ⟨h1, h2, _⟩; exact ho ⟨h1, h2⟩
  have HG := Lib.hid hg
  clear hg
  by_cases h1 : l.length < 512
  · have h1b : decide ((l.length : Int) < 512) = true := decide_eq_true (by omega)
    clear ho
    go_enter Try.func18, Try.ntmps18
    go_wp2_with fail
    all_goals
      go_ret3
      refine ⟨Below.refl _ _, ?_⟩
      rw [HG.out]
      rfl
  · have h1b : decide ((l.length : Int) < 512) = false := decide_eq_false (by omega)
    have h2b : decide (4096 < (l.length : Int)) = true := decide_eq_true (by omega)
    clear ho
    go_enter Try.func18, Try.ntmps18
    go_wp2_with fail
    all_goals
      go_ret3
      refine ⟨Below.refl _ _, ?_⟩
      rw [HG.out]
      rfl

set_option maxRecDepth 100000 in
theorem refget_in (w : World) (l : List UInt8) (g1 : 512 ≤ l.length) (g2 : l.length ≤ 4096) :
    Calls Try.prog 18 #[.string (st l)] w (RGetPost w l) := by
  have hk : (chPart l).length ≤ l.length := by
    by_cases hn : chN l + 8 ≤ l.length
    · rw [chPart_ok l (by omega) hn, List.length_take, List.length_drop]; omega
    · rw [chPart_no l (by omega) hn]; simp
  obtain ⟨s, hs⟩ : ∃ s, st l = s := ⟨_, rfl⟩
  have hsz : s.size = l.length := by rw [← hs, st_size]
  have E2 := Lib.hid (show s.extract 2 s.size = st (l.drop 2) by rw [← hs, st_extract, st_size, List.take_of_length_le (Nat.le_refl _)])
  have E4 := Lib.hid (show s.extract 4 s.size = st (l.drop 4) by rw [← hs, st_extract, st_size, List.take_of_length_le (Nat.le_refl _)])
  have HS := Lib.hid hs
  have HSZ := Lib.hid hsz
  have i1 : 512 ≤ s.size := by omega
  have i2 : s.size ≤ 4096 := by omega
  have h1b : decide ((s.size : Int) < 512) = false := decide_eq_false (by omega)
  have h2b : decide (4096 < (s.size : Int)) = false := decide_eq_false (by omega)
  have i3 : (2 : Int) ≤ (s.size : Int) := by omega
  have i4 : (4 : Int) ≤ (s.size : Int) := by omega
  have i8 : (8 : Int) ≤ (s.size : Int) := by omega
  rw [hs]
  clear hs hsz
  go_enter Try.func18, Try.ntmps18
  go_wp2_with fail
  refine (refread_i _ _ _ _ E2.out (by omega) (by omega) (by rw [List.length_drop]; omega) (by rw [List.length_drop]; omega)).mono ?_
  rintro e w1 ⟨n, r1, rfl, hn, hnb, hb1⟩
  have hnc : n < 65536 := hnb
  have hn8 : IntKind.i64.wrap (n : Int) = (n : Int) := conv_i64 n hnc
  go_wp2_with fail
  refine (refread_i _ _ _ _ E4.out (by omega) (by omega) (by rw [List.length_drop]; omega) (by rw [List.length_drop]; omega)).mono ?_
  rintro e w2 ⟨x, r2, rfl, hx, hxb, hb2'⟩
  have hb2 : Below w.heap.size w w2 := (hb1.alloc hb1.size _).trans (hb2'.mono (by have := hb1.size; simp; omega))
  have hxc : x < 4294967296 := hxb
  have hx8 := conv_u32 x hxc
  have en : n = chN l := by rw [chN_ok l (by omega)]; exact hn.out
  have ex : x = chX l := by rw [chX_ok l (by omega)]; exact hx.out
  have EN := Lib.hid en
  have EX := Lib.hid ex
  clear en ex hn hx hnb hxb E2 E4 hb1 hb2'
  by_cases hbig : (s.size : Int) - 8 < (n : Int)
  · have hbb : decide ((s.size : Int) - 8 < (n : Int)) = true := decide_eq_true hbig
    have hno : chGet l = none := by
      have hsz := HSZ.out
      unfold chGet
      rw [chPart_no l (by omega) (by rw [← EN.out]; omega), if_neg (by simp)]
    have HNO := Lib.hid hno
    clear hno hbig
    go_wp2_with fail
    all_goals
      go_ret3
      refine ⟨hb2.alloc hb2.size _, ?_⟩
      rw [HNO.out]
      rfl
  · have hbb : decide ((s.size : Int) - 8 < (n : Int)) = false := decide_eq_false hbig
    have hn8' : (8 : Int) ≤ 8 + (n : Int) := by omega
    have hn9 : 8 + (n : Int) ≤ (s.size : Int) := by omega
    have hpt : chPart l = (l.drop 8).take n := by
      have hsz := HSZ.out
      rw [EN.out]
      exact chPart_ok l (by omega) (by rw [← EN.out]; omega)
    have E8 := Lib.hid (show s.extract 8 (8 + n) = st (chPart l) by
      rw [hpt, ← HS.out, st_extract]
      congr 2
      rw [List.drop_take]
      congr 1
      omega)
    have hnl : (chPart l).length = n := by
      have hsz := HSZ.out
      rw [hpt, List.length_take, List.length_drop]; omega
    have HNL := Lib.hid hnl
    clear hpt hnl hbig
    go_wp2_with fail
    rw [E8.out]
    by_cases hok : 1 ≤ (chPart l).length ∧ (chPart l).length + 8 ≤ l.length
    · obtain ⟨o1, o2⟩ := hok
      refine (refput_ok _ (chPart l) x s.size hxc i1 i2 o1 (by rw [HSZ.out]; exact o2)).mono ?_
      rintro e w3 ⟨rfl, hb3'⟩
      have hb3 : Below w.heap.size w w3 := (hb2.alloc hb2.size _).trans (hb3'.mono (by have := hb2.size; simp; omega))
      have hsz := HSZ.out
      obtain rfl := HS.out
      by_cases heq : chPut (chPart l) x (st l).size = l
      · have hg : chGet l = some (chPart l, x) := by
          unfold chGet
          rw [if_pos ⟨g1, g2, o1, o2, by rw [← EX.out, ← hsz]; exact heq⟩, ← EX.out]
        have HG := Lib.hid hg
        rw [heq]
        clear heq hg hsz hb2 hb3'
        go_wp2_with fail
        go_ret3
        refine ⟨hb3, ?_⟩
        rw [HG.out]
        rfl
      · have hg : chGet l = none := by
          unfold chGet
          rw [if_neg]
          rintro ⟨_, _, _, _, h5⟩
          rw [← EX.out, ← hsz] at h5
          exact heq h5
        have HG := Lib.hid hg
        obtain ⟨y, hy⟩ : ∃ y, chPut (chPart l) x (st l).size = y := ⟨_, rfl⟩
        rw [hy] at heq ⊢
        have hyb : (y == l) = false := beq_eq_false_iff_ne.2 heq
        clear hg hsz hb2 hb3' hy
        go_wp2_with fail
        all_goals
          go_ret3
          refine ⟨hb3, ?_⟩
          rw [HG.out]
          rfl
    · have hno : chGet l = none := by
        unfold chGet
        rw [if_neg]
        rintro ⟨_, _, h3, h4, _⟩
        exact hok ⟨h3, h4⟩
      have HNO := Lib.hid hno
      refine (refput_no _ (chPart l) (by omega) x s.size (by rw [HSZ.out]; omega)).mono ?_
      rintro e w3 ⟨rfl, rfl⟩
      clear hno hok
      go_wp2_with fail
      go_ret3
      refine ⟨hb2.alloc hb2.size _, ?_⟩
      rw [HNO.out]
      rfl

theorem refget_any (w : World) (l : List UInt8) (hl : l.length ≤ 140737488355328) : Calls Try.prog 18 #[.string (st l)] w (RGetPost w l) := by
  by_cases h : 512 ≤ l.length ∧ l.length ≤ 4096
  · exact refget_in w l h.1 h.2
  · exact refget_out w l hl h

end Go.Proofs.Ythnehmfpadahiaa
