/- Package octet: sizes that may not be, Reader.Bytes, writing a constant's bytes, and awake of layer 1. -/
import Derived.Test.YthnehmfpadahiaaOctX
import Derived.Lib.SlBytesConst
namespace Go.Proofs.Ythnehmfpadahiaa
open Go.RowKit
set_option linter.unusedVariables false
set_option linter.unusedSimpArgs false

/-- Block k is neither the writer's own nor its bytes'. -/
def Avoid (w : World) (g k : Nat) : Prop := k < w.heap.size ∧ k ≠ g ∧ ∀ v, w.heap[g]? = some (.cells #[v] 86 (0, 0)) → v.ownBlock ≠ some k
/-- What the writer doesn't own stays. -/
def Spares (g : Nat) (w w' : World) : Prop := ∀ k, Avoid w g k → Avoid w' g k ∧ w'.heap[k]? = w.heap[k]?
theorem Spares.trans {g : Nat} {w w1 w2 : World} (h : Spares g w w1) (h' : Spares g w1 w2) : Spares g w w2 := fun k hk => ⟨(h' k (h k hk).1).1, (h' k (h k hk).1).2.trans (h k hk).2⟩
theorem Spares.of_below {g : Nat} {w w' : World} (h : Below w.heap.size w w') (hg : g < w.heap.size) : Spares g w w' := by
  intro k ⟨h1, h2, h3⟩
  exact ⟨⟨Nat.lt_of_lt_of_le h1 h.size, h2, fun v hv => h3 v (by rw [← h.block g hg]; exact hv)⟩, h.block k h1⟩
theorem own_lt {w : World} {base : Nat} {e : TypeId} {size n k : Nat} {v : Value} {xs : List Value} (h : w.ownsRow base e size v n xs) (hk : v.ownBlock = some k) : k < w.heap.size := by
  rcases h.2 with ⟨rfl, _⟩ | ⟨g', cap, cur, rfl, _, hh, _⟩
  · simp [Value.ownBlock] at hk
  · have : g' = k := by simpa [Value.ownBlock] using hk
    subst this
    exact blk_lt hh
theorem IsW.avoid {B g : Nat} {w : World} {l : List UInt8} (h : IsW B w g l) (o : Obj) : Avoid (w.alloc o) g w.heap.size := by
  obtain ⟨h1, v, h2, h3⟩ := h
  have hg := blk_lt h2
  refine ⟨by simp, by omega, fun v' hv' he => ?_⟩
  rw [blk_alloc h2 o] at hv'
  injection hv' with hv'
  injection hv' with hv'
  have : v' = v := by simpa using hv'.symm
  subst this
  exact absurd (own_lt h3 he) (by omega)

theorem raw_keep (B g : Nat) (l : List UInt8) (w : World) (h : IsW B w g l) (hB : B ≤ w.heap.size) (D : Nat) (A : Option Addr) (n c : Nat) (m : List UInt8) (hm : Sl w D A n c m) (hl : l.length + n ≤ 2199023255552) :
    Calls Try.prog 31 #[.pointer (some ⟨g, 0, none⟩), .slice A n c] w fun e w' => e = .returned (.tuple #[]) ∧ IsW B w' g (l ++ m) ∧ Below B w w' ∧ Spares g w w' := by
  obtain ⟨i0, hi0, hz0, hz1, hz2⟩ := info_parts info_u8
  obtain ⟨hBg, v, hblk, hown⟩ := h
  have hone : One w g 86 v := hblk
  obtain ⟨_, hcell, hfz⟩ := hone.all
  have hne := own_ne hown hblk (by decide)
  have hr := hm.reads
  have HL := Lib.hid hm.len
  have hglt := blk_lt hblk
  have hvl : ∀ k, v.ownBlock = some k → k < w.heap.size := fun k => own_lt hown
  clear hm
  go_enter Try.func31, Try.ntmps31
  go_wp2_with (first | (at_builtin; refine wpList_append_any _ rfl _ _ _ rfl B 5 i0 _ 1 1 Try.underlying22 hi0 hz0 hz1 hz2 rfl (by omega) v _ _ rfl hown D A n c _ rfl hr (bv_one m) (by unfold maxLen; omega) (by omega) hB ?_; intro v' w1 hown1 hg1 hat1; obtain ⟨A', c', rfl⟩ := own_slice hown1; obtain ⟨hone1, hc1, hf1⟩ := (hone.grown hg1 hne).all))
  go_end0
  refine ⟨rfl, IsW.put hBg hone1 hown1 (by have := HL.out; simp; omega) (by simp) (by simp [bv]), ((Below.refl _ _).grown hg1 hB (fun k hk => own_base hown k hk)).setCell hBg _, ?_⟩
  intro k ⟨k1, k2, k3⟩
  have hk1 : w1.heap[k]? = w.heap[k]? := hg1.block k k1 (fun h => k3 v hblk h.symm)
  refine ⟨⟨by simpa using Nat.lt_of_lt_of_le k1 hg1.size, k2, fun v' hv' => ?_⟩, by rw [Below.heap_setCell _ _ _ _ k2, hk1]⟩
  have h1 : w1.heap[g]? = some (.cells #[v] 86 (0, 0)) := hone1
  have h2 := blk_set h1 0 (Value.slice A' (l.length + n) c')
  rw [h2] at hv'
  injection hv' with hv'
  injection hv' with hv'
  have : v' = .slice A' (l.length + n) c' := by simpa using hv'.symm
  subst this
  rcases hat1 with h | h
  · rw [h]; exact k3 v hblk
  · rw [h]; intro e; injection e with e; omega

theorem var_keep (B g : Nat) (l : List UInt8) (X : Int) (w : World) (h : IsW B w g l) (hX : 0 ≤ X) (hX' : X ≤ 18446744073709551615) (hl : l.length ≤ 1099511627776) (hB : B ≤ w.heap.size) :
    Calls Try.prog 27 #[.pointer (some ⟨g, 0, none⟩), .int .u64 X] w fun e w' => e = .returned (.tuple #[]) ∧ IsW B w' g (l ++ varB X.toNat) ∧ Below B w w' ∧ Spares g w w' := by
  obtain ⟨x, rfl⟩ := Int.eq_ofNat_of_zero_le hX
  have hglt : g < w.heap.size := by obtain ⟨_, v, h2, _⟩ := h; exact blk_lt h2
  go_enter Try.func27, Try.ntmps27
  go_wp2_with fail
  refine (short_any _ x (by omega)).mono ?_
  rintro e w1 ⟨gs, n, c, rfl, hmb, hn, hnc, hgs, hb1⟩
  have hlen := varB_length x
  have HN := Lib.hid hn
  clear hn
  have hz := hb1.size
  go_wp2_with fail
  refine (raw_keep _ _ _ _ (h.below hb1) (by omega) _ _ _ _ _ (hmb.sl HN.out hnc) (by have := HN.out; omega)).mono ?_
  rintro e w2 ⟨rfl, hW2, hb2, hsp⟩
  go_wp2_with fail
  go_end0
  exact ⟨rfl, hW2, (hb1.mono hB).trans hb2, (Spares.of_below hb1 hglt).trans hsp⟩

theorem wbytes_keep (B g k : Nat) (l : List UInt8) (w : World) (h : IsW B w g l) (hB : B ≤ w.heap.size) (n c : Nat) (m : List UInt8) (hk : Avoid w g k) (hm : Sl w (k + 1) (some ⟨k, 0, none⟩) n c m) (hm' : ∀ w' : World, w'.heap[k]? = w.heap[k]? → Sl w' (k + 1) (some ⟨k, 0, none⟩) n c m) (hl : l.length + n ≤ 1099511627776) :
    Calls Try.prog 29 #[.pointer (some ⟨g, 0, none⟩), .slice (some ⟨k, 0, none⟩) n c] w fun e w' => e = .returned (.tuple #[]) ∧ IsW B w' g (l ++ varB n ++ m) ∧ Below B w w' := by
  have hvl := varB_length n
  go_enter Try.func29, Try.ntmps29
  have hw64 : IntKind.u64.wrap (n : Int) = (n : Int) := IntWalk.u64_in _ (by omega)
  go_wp2_with fail
  refine (var_keep _ _ _ _ _ h (by omega) (by omega) (by omega) hB).mono ?_
  rintro e w1 ⟨rfl, hW1, hb1, hsp1⟩
  simp only [Int.toNat_natCast] at hW1
  have hm1 := hm' w1 (hsp1 k hk).2
  have hB1 : B ≤ w1.heap.size := Nat.le_trans hB hb1.size
  clear hm' hm hsp1
  go_wp2_with fail
  refine (raw_any _ _ _ _ hW1 hB1 _ _ _ _ _ hm1 (by simp; omega)).mono ?_
  rintro e w2 ⟨rfl, hW2, hb2⟩
  go_wp2_with fail
  go_end0
  exact ⟨rfl, hW2, hb1.trans hb2⟩

/-- Sizes that may not be. -/
theorem rnum_no (w : World) (g : Nat) (l : List UInt8) (e : Int) (S : Int) (hS : ¬ (1 ≤ S ∧ S ≤ 8)) (h : IsR w g l e) :
    Calls Try.prog 35 #[.pointer (some ⟨g, 0, none⟩), .int .i64 S] w fun r w' => r = .returned (.int .u64 0) ∧ IsR w' g l (fErr e 1) ∧ At g w w' := by
  have HS := Lib.hid hS
  clear hS
  go_enter Try.func35, Try.ntmps35
  go_wp2_with (first | (go_at_call 46; refine (may_no _ HS.out _).mono ?_; rintro r w' ⟨rfl, rfl⟩) | (go_at_call 50; refine (fail_any _ _ _ _ 1 h).mono ?_; rintro r w1 ⟨rfl, hR1, hA1⟩))
  go_ret
  exact ⟨rfl, hR1, hA1⟩
theorem rraw_neg (w : World) (g : Nat) (l : List UInt8) (e : Int) (S : Int) (hS : S < 0) (h : IsR w g l e) :
    Calls Try.prog 40 #[.pointer (some ⟨g, 0, none⟩), .int .i64 S] w fun r w' => r = .returned (.slice none 0 0) ∧ IsR w' g l (fErr e 1) ∧ At g w w' := by
  go_enter Try.func40, Try.ntmps40
  go_wp2_with (first | (go_at_call 50; refine (fail_any _ _ _ _ 1 h).mono ?_; rintro r w1 ⟨rfl, hR1, hA1⟩))
  go_ret
  exact ⟨rfl, hR1, hA1⟩
theorem rraw_i (w : World) (g : Nat) (l : List UInt8) (e : Int) (S : Int) (hS : 0 ≤ S) (h : IsR w g l e) (hl : l.length ≤ 140737488355328) :
    Calls Try.prog 40 #[.pointer (some ⟨g, 0, none⟩), .int .i64 S] w fun r w' => ∃ A n c, r = .returned (.slice A n c) ∧ w'.ownsRow w.heap.size 5 1 (.slice A n c) n (bv (takeL l e S.toNat)) ∧ IsR w' g (takeR l e S.toNat) (takeE l e S.toNat) ∧ At g w w' := by
  obtain ⟨s, rfl⟩ := Int.eq_ofNat_of_zero_le hS
  exact rraw_any w g l e s h hl

/-- What Bytes reads, leaves, and the error. -/
def rbOk (l : List UInt8) (e most : Int) : Prop := varE l e = 0 ∧ 0 ≤ most ∧ (varX l e : Int) ≤ most
instance (l : List UInt8) (e most : Int) : Decidable (rbOk l e most) := by unfold rbOk; exact inferInstance
def rbL (l : List UInt8) (e most : Int) : List UInt8 := if rbOk l e most then takeL (varR l e) 0 (varX l e) else []
def rbR (l : List UInt8) (e most : Int) : List UInt8 := if rbOk l e most then takeR (varR l e) 0 (varX l e) else varR l e
def rbE (l : List UInt8) (e most : Int) : Int := if varE l e ≠ 0 then varE l e else if rbOk l e most then takeE (varR l e) 0 (varX l e) else 13

theorem varR_le (l : List UInt8) (e : Int) : (varR l e).length ≤ l.length := by
  unfold varR
  split
  · simp
  · exact Nat.le_refl _

theorem own_nil (w : World) (B : Nat) : w.ownsRow B 5 1 (.slice none 0 0) 0 (bv []) := ⟨rfl, Or.inl ⟨rfl, rfl⟩⟩

def RbPost (w : World) (g : Nat) (l : List UInt8) (e most : Int) (r : Ending) (w' : World) : Prop :=
  ∃ A n c, r = .returned (.slice A n c) ∧ w'.ownsRow w.heap.size 5 1 (.slice A n c) n (bv (rbL l e most)) ∧ IsR w' g (rbR l e most) (rbE l e most) ∧ At g w w'

theorem rbytes_any (w : World) (g : Nat) (l : List UInt8) (e most : Int) (h : IsR w g l e) (hl : l.length ≤ 140737488355328) (hm : most ≤ 9223372036854775807) :
    Calls Try.prog 36 #[.pointer (some ⟨g, 0, none⟩), .int .i64 most] w (RbPost w g l e most) := by
  have hvl := varR_le l e
  go_enter Try.func36, Try.ntmps36
  go_wp2_with fail
  refine (rvar_any _ _ _ _ h hl).mono ?_
  rintro r w1 ⟨x, rfl, hx, hxl, hR1, hA1⟩
  by_cases he : varE l e = 0
  · have h1 := hR1
    rw [he] at h1
    have HE := Lib.hid he
    clear he
    by_cases hok : 0 ≤ most ∧ (x : Int) ≤ most
    · obtain ⟨o1, o2⟩ := hok
      have hk : rbOk l e most := ⟨HE.out, o1, by rw [← hx.out]; exact o2⟩
      have HK := Lib.hid hk
      clear hk
      have hw1 : IntKind.u64.wrap most = most := IntWalk.u64_in _ (by omega)
      have hw2 : IntKind.i64.wrap (x : Int) = (x : Int) := IntWalk.i64_in _ (by omega)
      go_wp2_with (first | (go_at_call 38; refine (err_any _ _ _ _ h1).mono ?_; rintro r w' ⟨rfl, rfl⟩) | (go_at_call 40; refine (rraw_any _ _ _ _ x h1 (by omega)).mono ?_; rintro r w2 ⟨A, n, c, rfl, hown, hR2, hA2⟩))
      go_ret
      refine ⟨A, n, c, rfl, ?_, ?_, hA1.trans hA2⟩
      · rw [rbL, if_pos HK.out, ← hx.out]; exact own_weaken hown hA1.size
      · rw [rbR, if_pos HK.out, rbE, if_neg (by rw [HE.out]; simp), if_pos HK.out, ← hx.out]; exact hR2
    · have hk : ¬ rbOk l e most := by
        rintro ⟨_, a, b⟩
        rw [← hx.out] at b
        exact hok ⟨a, b⟩
      have HK := Lib.hid hk
      clear hk
      have HOK := Lib.hid hok
      clear hok
      by_cases hneg : most < 0
      · go_wp2_with (first | (go_at_call 38; refine (err_any _ _ _ _ h1).mono ?_; rintro r w' ⟨rfl, rfl⟩) | (go_at_call 50; refine (fail_any _ _ _ _ 13 h1).mono ?_; rintro r w2 ⟨rfl, hR2, hA2⟩))
        go_ret
        refine ⟨none, 0, 0, rfl, ?_, ?_, hA1.trans hA2⟩
        · rw [rbL, if_neg HK.out]; exact own_nil _ _
        · rw [rbR, if_neg HK.out, rbE, if_neg (by rw [HE.out]; simp), if_neg HK.out]; exact hR2
      · have hgt : most < (x : Int) := by have := HOK.out; omega
        have hw1 : IntKind.u64.wrap most = most := IntWalk.u64_in _ (by omega)
        go_wp2_with (first | (go_at_call 38; refine (err_any _ _ _ _ h1).mono ?_; rintro r w' ⟨rfl, rfl⟩) | (go_at_call 50; refine (fail_any _ _ _ _ 13 h1).mono ?_; rintro r w2 ⟨rfl, hR2, hA2⟩))
        go_ret
        refine ⟨none, 0, 0, rfl, ?_, ?_, hA1.trans hA2⟩
        · rw [rbL, if_neg HK.out]; exact own_nil _ _
        · rw [rbR, if_neg HK.out, rbE, if_neg (by rw [HE.out]; simp), if_neg HK.out]; exact hR2
  · have HE := Lib.hid he
    have hb : (varE l e != 0) = true := by simpa using he
    clear he
    go_wp2_with (first | (go_at_call 38; refine (err_any _ _ _ _ hR1).mono ?_; rintro r w' ⟨rfl, rfl⟩))
    go_ret
    have hk : ¬ rbOk l e most := fun h => HE.out h.1
    refine ⟨none, 0, 0, rfl, ?_, ?_, hA1⟩
    · rw [rbL, if_neg hk]; exact own_nil _ _
    · rw [rbR, if_neg hk, rbE, if_pos HE.out]; exact hR1

end Go.Proofs.Ythnehmfpadahiaa
