/- The reader of package octet: contracts of NewReader, fail, take, Num, Raw for readers of known bytes. -/
import Derived.Test.YthmkmojlnfkfjaaOctWn
namespace Go.Proofs.Ythmkmojlnfkfjaa
open Go.RowKit
set_option linter.unusedVariables false
set_option linter.unusedSimpArgs false

/-- A reader at block g: l is left, e the error. Its bytes lie below g. -/
def IsR (w : World) (g : Nat) (l : List UInt8) (e : Int) : Prop :=
  ∃ A n c, w.heap[g]? = some (.cells #[.slice A n c, .int .i64 e] 105 (0, 0)) ∧ Sl w g A n c l

theorem IsR.lt {w : World} {g : Nat} {l : List UInt8} {e : Int} (h : IsR w g l e) : g < w.heap.size := by
  obtain ⟨A, n, c, hb, _⟩ := h
  exact blk_lt hb
theorem IsR.below {w w' : World} {B g : Nat} {l : List UInt8} {e : Int} (h : IsR w g l e) (hb : Below B w w') (hg : g < B) : IsR w' g l e := by
  obtain ⟨A, n, c, h1, h2⟩ := h
  exact ⟨A, n, c, blk_below h1 hb hg, h2.keep fun k hk => hb.block k (by omega)⟩
theorem new_r (w : World) (B : Nat) (A : Option Addr) (n c : Nat) (l : List UInt8) (h : Sl w B A n c l) (hn : n ≤ 140737488355328) :
    Calls Try.prog 37 #[.slice A n c] w fun e w' => ∃ g, e = .returned (.pointer (some ⟨g, 0, none⟩)) ∧ IsR w' g l 0 ∧ w.heap.size ≤ g ∧ Below w.heap.size w w' := by
  have HL := Lib.hid h.len
  have hcl := fun w' (hs : Sl w' B A n c l) => clone_any w' B A n c l hs hn
  go_enter Try.func37, Try.ntmps37
  go_wp2_with (first | (go_at_call 48; refine (hcl _ h).mono ?_; rintro e w' ⟨v', rfl, hown', hb'⟩; obtain ⟨A', c', rfl⟩ := own_slice hown'))
  go_ret
  have hs := Sl.of_own hown'
  exact ⟨_, rfl, ⟨A', n, c', heap_alloc_new _ _, hs.keep fun k hk => Below.heap_alloc _ _ _ hk⟩, hb'.size, hb'.alloc hb'.size _⟩

/-- What fail leaves of the error. -/
def fErr (e x : Int) : Int := if e = 0 then x else e

theorem fail_any (w : World) (g : Nat) (l : List UInt8) (e x : Int) (h : IsR w g l e) :
    Calls Try.prog 49 #[.pointer (some ⟨g, 0, none⟩), .int .i64 x] w fun r w' => r = .returned (.tuple #[]) ∧ IsR w' g l (fErr e x) ∧ At g w w' := by
  obtain ⟨A, n, c, hb, hs⟩ := h
  have hc0 := blk_cell hb 0
  have hc1 := blk_cell hb 1
  have hf1 := blk_frozen hb 1
  by_cases he : e = 0
  · subst he
    go_enter Try.func49, Try.ntmps49
    go_wp2
    go_end0
    exact ⟨rfl, ⟨A, n, c, by simpa [fErr] using blk_set hb 1 (.int .i64 x), hs.keep fun k hk => Below.heap_setCell _ _ _ _ (by simp; omega)⟩, (At.refl _ _).setCell 1 _⟩
  · have he' : (e == 0) = false := by simpa using he
    clear he
    go_enter Try.func49, Try.ntmps49
    go_wp2
    go_end0
    exact ⟨rfl, ⟨A, n, c, by rw [fErr, if_neg (by simpa using he')]; exact hb, hs⟩, At.refl _ _⟩

theorem fErr_ne (e x : Int) (h : x ≠ 0) : fErr e x ≠ 0 := by unfold fErr; split <;> assumption
theorem IsR.cells {w : World} {g : Nat} {l : List UInt8} {e : Int} (h : IsR w g l e) : ∃ A n c, w.cell? ⟨g, 0, none⟩ = some (.slice A n c) ∧ w.cell? ⟨g, 1, none⟩ = some (.int .i64 e) := by
  obtain ⟨A, n, c, hb, hs⟩ := h
  exact ⟨A, n, c, blk_cell hb 0, blk_cell hb 1⟩

/-- What take leaves, and gives. -/
def takeL (l : List UInt8) (e : Int) (n : Nat) : List UInt8 := if (if l.length < n then fErr e 10 else e) = 0 then l.take n else []
def takeR (l : List UInt8) (e : Int) (n : Nat) : List UInt8 := if (if l.length < n then fErr e 10 else e) = 0 then l.drop n else l
def takeE (l : List UInt8) (e : Int) (n : Nat) : Int := if l.length < n then fErr e 10 else e

theorem take_any (w : World) (g : Nat) (l : List UInt8) (e : Int) (m : Nat) (h : IsR w g l e) :
    Calls Try.prog 50 #[.pointer (some ⟨g, 0, none⟩), .int .i64 (m : Int)] w fun r w' => ∃ A n c, r = .returned (.slice A n c) ∧ Sl w' g A n c (takeL l e m) ∧ IsR w' g (takeR l e m) (takeE l e m) ∧ At g w w' := by
  obtain ⟨i0, hi0, hz0, hz1, hz2⟩ := info_parts info_u8
  obtain ⟨A, n, c, hb, hs⟩ := h
  have hR : IsR w g l e := ⟨A, n, c, hb, hs⟩
  have hc0 := blk_cell hb 0
  have hc1 := blk_cell hb 1
  have hf0 := blk_frozen hb 0
  have hlen := hs.len
  have hcap := hs.cap
  subst hlen
  by_cases hlt : l.length < m
  · have hfail := fail_any w g l e 10 hR
    have hE : takeE l e m = fErr e 10 := if_pos hlt
    have hne : fErr e 10 ≠ 0 := fErr_ne e 10 (by decide)
    have hL : takeL l e m = [] := by unfold takeL; rw [if_pos hlt, if_neg hne]
    have hR' : takeR l e m = l := by unfold takeR; rw [if_pos hlt, if_neg hne]
    have hneq : (fErr e 10 != 0) = true := by simpa using hne
    rw [hE, hL, hR']
    clear hE hL hR' hne
    go_enter Try.func50, Try.ntmps50
    go_wp2_with (first | (go_at_call 49; refine hfail.mono ?_; rintro r w' ⟨rfl, hR1, hA1⟩; obtain ⟨A1, n1, c1, hd0, hd1⟩ := hR1.cells))
    go_ret
    exact ⟨_, _, _, rfl, Sl.nil_ _ _, hR1, hA1⟩
  · by_cases he : e = 0
    · subst he
      have hmn : m ≤ l.length := by omega
      obtain ⟨A1, hcut1, hsl1⟩ := cut_hm (P := Try.prog) 35 5 .i64 .i64 Try.underlying35 hi0 hz1 A l.length c m (by omega)
      obtain ⟨A2, hcut2, hsl2⟩ := cut_l (P := Try.prog) 35 5 .i64 Try.underlying35 hi0 hz1 A l.length c m hmn
      have hE : takeE l 0 m = 0 := if_neg hlt
      have hL : takeL l 0 m = l.take m := by unfold takeL; rw [if_neg hlt, if_pos rfl]
      have hR' : takeR l 0 m = l.drop m := by unfold takeR; rw [if_neg hlt, if_pos rfl]
      rw [hE, hL, hR']
      clear hE hL hR'
      go_enter Try.func50, Try.ntmps50
      go_wp2_with fail
      go_ret
      have hkeep : ∀ k, k < g → (w.setCell ⟨g, 0, none⟩ (.slice A2 (l.length - m) (c - m))).heap[k]? = w.heap[k]? := fun k hk => Below.heap_setCell _ _ _ _ (by simp; omega)
      exact ⟨A1, m, m, rfl, (hsl1 w g l hmn hs).keep hkeep, ⟨A2, l.length - m, c - m, by simpa using blk_set hb 0 _, (hsl2 w g l hs).keep hkeep⟩, (At.refl _ _).setCell 0 _⟩
    · have hE : takeE l e m = e := if_neg hlt
      have hL : takeL l e m = [] := by unfold takeL; rw [if_neg hlt, if_neg he]
      have hR' : takeR l e m = l := by unfold takeR; rw [if_neg hlt, if_neg he]
      have hneq : (e != 0) = true := by simpa using he
      rw [hE, hL, hR']
      clear hE hL hR' he
      go_enter Try.func50, Try.ntmps50
      go_wp2_with fail
      go_ret
      exact ⟨_, _, _, rfl, Sl.nil_ _ _, hR, At.refl _ _⟩

/-- Bytes as a number, the highest first. -/
def be (l : List UInt8) : Nat := l.foldl (fun x c => x * 256 + c.toNat) 0
theorem be_snoc (l : List UInt8) (c : UInt8) : be (l ++ [c]) = be l * 256 + c.toNat := by simp [be]
theorem be_lt_from (l : List UInt8) : ∀ a : Nat, l.foldl (fun x c => x * 256 + c.toNat) a < (a + 1) * 256 ^ l.length := by
  induction l with
  | nil => intro a; simp
  | cons c l ih =>
    intro a
    have h := ih (a * 256 + c.toNat)
    have hc := c.toNat_lt
    rw [List.length_cons, Nat.pow_succ, List.foldl_cons]
    refine Nat.lt_of_lt_of_le h ?_
    rw [Nat.mul_comm (256 ^ l.length) 256, ← Nat.mul_assoc]
    exact Nat.mul_le_mul_right _ (by omega)
theorem be_lt (l : List UInt8) : be l < 256 ^ l.length := by simpa [be] using be_lt_from l 0

theorem takeL_len (l : List UInt8) (e : Int) (n : Nat) : (takeL l e n).length ≤ n := by
  unfold takeL
  by_cases h : (if l.length < n then fErr e 10 else e) = 0
  · rw [if_pos h, List.length_take]; omega
  · rw [if_neg h]; exact Nat.zero_le _

theorem takeL_le (l : List UInt8) (e : Int) (n : Nat) : (takeL l e n).length ≤ l.length := by
  unfold takeL
  by_cases h : (if l.length < n then fErr e 10 else e) = 0
  · rw [if_pos h, List.length_take]; omega
  · rw [if_neg h]; exact Nat.zero_le _

theorem or_byte (x : Nat) (u : UInt8) (hx : x < 72057594037927936) : bits BinOp.or IntKind.u64 (IntKind.u64.wrap ((x : Int) * 256)) (IntKind.u64.wrap (u.toNat : Int)) = ((x * 256 + u.toNat : Nat) : Int) := by
  have hu := u.toNat_lt
  rw [IntWalk.u64_in _ (by omega), IntWalk.u64_in _ (by omega)]
  have h := u64_or_nat (x * 256) u.toNat (by omega) (by omega)
  rw [Int.natCast_mul] at h
  rw [show ((256 : Nat) : Int) = 256 from rfl] at h
  rw [h]
  have := Nat.two_pow_add_eq_or_of_lt (i := 8) (b := u.toNat) (by omega) x
  simp only [Nat.mul_comm x 256]
  rw [show (256 : Nat) = 2 ^ 8 from rfl, ← this]

theorem rnum_any (w : World) (g : Nat) (l : List UInt8) (e : Int) (sz : Nat) (h1 : 1 ≤ sz) (h8 : sz ≤ 8) (h : IsR w g l e) :
    Calls Try.prog 38 #[.pointer (some ⟨g, 0, none⟩), .int .i64 (sz : Int)] w fun r w' => r = .returned (.int .u64 (be (takeL l e sz) : Nat)) ∧ IsR w' g (takeR l e sz) (takeE l e sz) ∧ At g w w' := by
  have htk := take_any w g l e sz h
  have hlen := takeL_len l e sz
  go_enter Try.func38, Try.ntmps38
  go_wp2_with (first | (go_at_call 44; refine (may_yes _ (by omega) (by omega) _).mono ?_; rintro r w' ⟨rfl, rfl⟩) | (go_at_call 50; refine htk.mono ?_; rintro r w1 ⟨A, n, c, rfl, hs1, hR1, hA1⟩))
  obtain ⟨L, hL⟩ : ∃ L, takeL l e sz = L := ⟨_, rfl⟩
  rw [hL] at hs1 hlen
  have HN := Lib.hid hs1.len
  have hn8 : n ≤ 8 := by have := HN.out; omega
  go_loop [5, 19] (fun x i => ∃ k : Nat, k ≤ n ∧ i = .int .i64 k ∧ x = .int .u64 (be (L.take k) : Nat)) (fun _ i => n - (intOf i).toNat)
  case atStart => exact ⟨0, Nat.zero_le _, rfl, by simp [be]⟩
  case round =>
    obtain ⟨k, hk, rfl, rfl⟩ := hrel
    by_cases hlt : k < n
    · obtain ⟨ad, u, rfl, hblt, hu, hcell⟩ := hs1.get hlt
      have hbl := be_lt (L.take k)
      have hpw : 256 ^ (L.take k).length ≤ 256 ^ 7 := Nat.pow_le_pow_right (by decide) (by rw [List.length_take]; omega)
      have HU := Lib.hid hu
      clear hu
      have HB := Lib.hid (Nat.lt_of_lt_of_le hbl hpw)
      clear hbl hpw
      go_wp2
      refine ⟨⟨k + 1, by omega, by go_num, ?_⟩, by simp [intOf]; omega⟩
      rw [or_byte _ _ HB.out, take_snoc HU.out, be_snoc]
    · go_wp2
      go_ret
      have hk : k = n := by omega
      have := HN.out
      exact ⟨ret_int (by rw [List.take_of_length_le (by omega)]), hR1, hA1⟩

theorem rnum_i (w : World) (g : Nat) (l : List UInt8) (e : Int) (S : Int) (h : IsR w g l e) (h1 : 1 ≤ S) (h8 : S ≤ 8) :
    Calls Try.prog 38 #[.pointer (some ⟨g, 0, none⟩), .int .i64 S] w fun r w' => ∃ x : Nat, r = .returned (.int .u64 (x : Int)) ∧ Hid (x = be (takeL l e S.toNat)) ∧ x < 256 ^ S.toNat ∧ IsR w' g (takeR l e S.toNat) (takeE l e S.toNat) ∧ At g w w' := by
  obtain ⟨s, rfl⟩ := Int.eq_ofNat_of_zero_le (show 0 ≤ S by omega)
  refine (rnum_any w g l e s (by omega) (by omega) h).mono ?_
  rintro r w' ⟨rfl, h1, h2⟩
  refine ⟨_, rfl, Lib.hid rfl, Nat.lt_of_lt_of_le (be_lt _) (Nat.pow_le_pow_right (by decide) ?_), h1, h2⟩
  simpa using takeL_len l e s

theorem takeR_le (l : List UInt8) (e : Int) (n : Nat) : (takeR l e n).length ≤ l.length := by
  unfold takeR
  by_cases h : (if l.length < n then fErr e 10 else e) = 0
  · rw [if_pos h, List.length_drop]; omega
  · rw [if_neg h]; exact Nat.le_refl _

end Go.Proofs.Ythmkmojlnfkfjaa
