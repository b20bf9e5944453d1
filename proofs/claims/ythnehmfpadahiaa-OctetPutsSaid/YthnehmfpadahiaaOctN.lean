/- Package octet's writer that is nil, sizes that may not be; the references' Num, Var, Bytes. -/
import Derived.Test.YthnehmfpadahiaaActs
import Derived.Test.YthnehmfpadahiaaRef1
namespace Go.Proofs.Ythnehmfpadahiaa
open Go.RowKit
set_option linter.unusedVariables false
set_option linter.unusedSimpArgs false

theorem num_nil (w : World) (X S : Int) : Calls Try.prog 25 #[.pointer none, .int .u64 X, .int .i64 S] w fun e w' => e = .returned (.tuple #[]) ∧ w = w' := by
  go_enter Try.func25, Try.ntmps25
  go_wp2
  exact bodyPost_ret (results_none rfl _ _ _) rfl ⟨rfl, rfl⟩
theorem raw_nil (w : World) (A : Option Addr) (n c : Nat) : Calls Try.prog 31 #[.pointer none, .slice A n c] w fun e w' => e = .returned (.tuple #[]) ∧ w = w' := by
  go_enter Try.func31, Try.ntmps31
  go_wp2
  go_end0
  exact ⟨rfl, rfl⟩
theorem out_nil (w : World) : Calls Try.prog 32 #[.pointer none] w fun e w' => e = .returned (.slice none 0 0) ∧ w = w' := by
  go_enter Try.func32, Try.ntmps32
  go_wp2
  go_ret
  exact ⟨rfl, rfl⟩
theorem var_nil (w : World) (X : Int) (hX : 0 ≤ X) (hX' : X ≤ 18446744073709551615) : Calls Try.prog 27 #[.pointer none, .int .u64 X] w fun e w' => e = .returned (.tuple #[]) ∧ Below w.heap.size w w' := by
  obtain ⟨x, rfl⟩ := Int.eq_ofNat_of_zero_le hX
  go_enter Try.func27, Try.ntmps27
  go_wp2_with fail
  refine (short_any _ x (by omega)).mono ?_
  rintro e w1 ⟨gs, n, c, rfl, hmb, hn, hnc, hgs, hb1⟩
  clear hmb hn
  go_wp2_with (first | (go_at_call 31; refine (raw_nil _ _ _ _).mono ?_; rintro e w' ⟨rfl, rfl⟩))
  go_end0
  exact ⟨rfl, hb1⟩
theorem wbytes_nil (w : World) (A : Option Addr) (n c : Nat) (hn : n ≤ 300) : Calls Try.prog 29 #[.pointer none, .slice A n c] w fun e w' => e = .returned (.tuple #[]) ∧ Below w.heap.size w w' := by
  have hw64 : IntKind.u64.wrap (n : Int) = (n : Int) := IntWalk.u64_in _ (by omega)
  go_enter Try.func29, Try.ntmps29
  go_wp2_with fail
  refine (var_nil _ _ (by omega) (by omega)).mono ?_
  rintro e w1 ⟨rfl, hb1⟩
  go_wp2_with (first | (go_at_call 31; refine (raw_nil _ _ _ _).mono ?_; rintro e w' ⟨rfl, rfl⟩))
  go_end0
  exact ⟨rfl, hb1⟩
theorem num_no (w : World) (g : Nat) (X S : Int) (hS : ¬ (1 ≤ S ∧ S ≤ 8)) : Calls Try.prog 25 #[.pointer (some ⟨g, 0, none⟩), .int .u64 X, .int .i64 S] w fun e w' => e = .returned (.tuple #[]) ∧ w = w' := by
  have HS := Lib.hid hS
  clear hS
  go_enter Try.func25, Try.ntmps25
  go_wp2_with (first | (go_at_call 46; refine (may_no _ HS.out _).mono ?_; rintro r w' ⟨rfl, rfl⟩))
  exact bodyPost_ret (results_none rfl _ _ _) rfl ⟨rfl, rfl⟩
theorem refnum_no (w : World) (X S : Int) (hS : ¬ (1 ≤ S ∧ S ≤ 8)) : Calls Try.prog 26 #[.int .u64 X, .int .i64 S] w fun e w' => e = .returned (.string (st [])) ∧ w = w' := by
  by_cases h1 : S < 1
  · have h1b : decide (S < 1) = true := decide_eq_true h1
    clear hS
    go_enter Try.func26, Try.ntmps26
    go_wp2
    go_ret
    exact ⟨rfl, rfl⟩
  · have h1b : decide (S < 1) = false := decide_eq_false h1
    have h8 : 8 < S := by omega
    have h8b : decide (8 < S) = true := decide_eq_true h8
    clear hS
    go_enter Try.func26, Try.ntmps26
    go_wp2
    go_ret
    exact ⟨rfl, rfl⟩

theorem refvar_any (w : World) (x : Nat) (hx : x < 18446744073709551616) :
    Calls Try.prog 28 #[.int .u64 (x : Int)] w fun e w' => e = .returned (.string (st (varB x))) ∧ Below w.heap.size w w' := by
  have hcv := fun (w : World) (n : Int) => string_one (P := Try.prog) Try.underlying22 Try.underlying5 Try.underlying9 w n
  go_enter Try.func28, Try.ntmps28
  go_wp2
  go_loopw [0, 3] (fun y s wr => ∃ (q : Nat) (acc : List UInt8), y = .int .u64 (q : Int) ∧ q ≤ 18446744073709551615 ∧ VInv x (q / 128) acc ∧ s = .string (st (UInt8.ofNat (x % 128) :: acc).reverse) ∧ Below w.heap.size w wr) (fun y _ _ => (intOf y).toNat)
  case atStart =>
    exact ⟨x, [], rfl, by omega, VInv.start x hx, rfl, (Below.refl _ _).alloc (Nat.le_refl _) _⟩
  case round =>
    obtain ⟨q, acc, rfl, hq, hinv, rfl, hbw⟩ := hrel
    have hl := hinv.len
    have hrl : (UInt8.ofNat (x % 128) :: acc).reverse.length ≤ 11 := by simp; omega
    by_cases hpos : 127 < q
    · go_wp2
      refine ⟨⟨q / 128, acc ++ [UInt8.ofNat (q / 128 % 128 + 128)], by simp, by omega, hinv.step (by omega), ?_, hbw.alloc hbw.size _⟩, by simp [intOf]; omega⟩
      have e : (⟨#[UInt8.ofNat (q / 128 % 128) + 128]⟩ : ByteArray) = st [UInt8.ofNat (q / 128 % 128 + 128)] := by simp [st]
      rw [e, st_append]
      simp
    · have hq0 : q / 128 = 0 := by omega
      rw [hq0] at hinv
      have hd := hinv.done
      subst hd
      go_wp2
      go_ret
      exact ⟨rfl, hbw⟩

theorem refvar_s (w : World) (X : Int) (hX : 0 ≤ X) (hX' : X ≤ 18446744073709551615) :
    Calls Try.prog 28 #[.int .u64 X] w fun e w' => ∃ s : ByteArray, e = .returned (.string s) ∧ Hid (s = st (varB X.toNat)) ∧ s.size ≤ 11 ∧ Below w.heap.size w w' := by
  obtain ⟨x, rfl⟩ := Int.eq_ofNat_of_zero_le hX
  refine (refvar_any w x (by omega)).mono ?_
  rintro e w' ⟨rfl, hb⟩
  refine ⟨_, rfl, Lib.hid rfl, ?_, hb⟩
  have := varB_length x
  simpa [ByteArray.size] using this
theorem refbytes_any (w : World) (l : List UInt8) (hl : l.length ≤ 300) :
    Calls Try.prog 30 #[.string (st l)] w fun e w' => e = .returned (.string (st (varB l.length ++ l))) ∧ Below w.heap.size w w' := by
  obtain ⟨n, hn⟩ : ∃ n, l.length = n := ⟨_, rfl⟩
  have hv := varB_length n
  have hsz : (st l).size = n := by simp [ByteArray.size, hn]
  have hw64 : IntKind.u64.wrap (n : Int) = (n : Int) := IntWalk.u64_in _ (by omega)
  rw [hn, ← st_append]
  have hn3 : n ≤ 300 := by omega
  obtain ⟨s, hs⟩ : ∃ s, st l = s := ⟨_, rfl⟩
  rw [hs] at hsz ⊢
  clear hs hn hl
  go_enter Try.func30, Try.ntmps30
  go_wp2_with fail
  refine (refvar_s _ _ (by omega) (by omega)).mono ?_
  rintro e w1 ⟨t, rfl, ht, htl, hb1⟩
  go_wp2_with fail
  go_ret
  refine ⟨?_, hb1⟩
  rw [ht.out, Int.toNat_natCast]
  rfl

theorem spares_put {w wA w1 : World} {g : Nat} {v v' : Value} (hblk : w.heap[g]? = some (.cells #[v] 86 (0, 0))) (hA : Below w.heap.size w wA) (hg1 : wA.grownBy w1 v.ownBlock) (hat : v'.ownBlock = v.ownBlock ∨ v'.ownBlock = some wA.heap.size) (hone : One w1 g 86 v) : Spares g w (w1.setCell ⟨g, 0, none⟩ v') := by
  intro k ⟨k1, k2, k3⟩
  have hsz := hA.size
  have hk1 : w1.heap[k]? = w.heap[k]? := (hg1.block k (by omega) (fun h => k3 v hblk h.symm)).trans (hA.block k k1)
  refine ⟨⟨by have := hg1.size; simp; omega, k2, fun v2 hv2 => ?_⟩, by rw [Below.heap_setCell _ _ _ _ k2, hk1]⟩
  have h1 : w1.heap[g]? = some (.cells #[v] 86 (0, 0)) := hone
  have h2 := blk_set h1 0 v'
  rw [h2] at hv2
  injection hv2 with hv2
  injection hv2 with hv2
  have : v2 = v' := by simpa using hv2.symm
  subst this
  rcases hat with h | h
  · rw [h]; exact k3 v hblk
  · rw [h]; intro e; injection e with e; omega

theorem num_keep (B g : Nat) (l : List UInt8) (x : Nat) (hx : x < 18446744073709551616) (sz : Nat) (h1 : 1 ≤ sz) (h8 : sz ≤ 8) (w : World) (h : IsW B w g l) (hl : l.length ≤ 1099511627776) (hB : B ≤ w.heap.size) :
    Calls Try.prog 25 #[.pointer (some ⟨g, 0, none⟩), .int .u64 (x : Int), .int .i64 (sz : Int)] w fun e w' => e = .returned (.tuple #[]) ∧ IsW B w' g (l ++ numB x sz) ∧ Below B w w' ∧ Spares g w w' := by
  obtain ⟨i0, hi0, hz0, hz1, hz2⟩ := info_parts info_u8
  go_enter Try.func25, Try.ntmps25
  go_wp2_with (first | (go_at_call 46; refine (may_yes _ (by omega) (by omega) _).mono ?_; rintro e w' ⟨rfl, rfl⟩))
  go_loopw [15] (fun i wr => ∃ k : Nat, k ≤ sz ∧ i = .int .i64 k ∧ IsW B wr g (l ++ (numB x sz).take k) ∧ Below B w wr ∧ Spares g w wr) (fun i _ => sz - (intOf i).toNat)
  case atStart => exact ⟨0, Nat.zero_le _, rfl, by simpa using h, Below.refl _ _, fun k hk => ⟨hk, rfl⟩⟩
  case round =>
    obtain ⟨k, hk, rfl, hW, hbw, hsp⟩ := hrel
    obtain ⟨hBg, v, hblk, hown⟩ := hW
    by_cases hlt : k < sz
    · have hone : One wr g 86 v := hblk
      obtain ⟨_, hcell, hfz⟩ := hone.all
      obtain ⟨e, he⟩ : ∃ e : Nat, e = sz - 1 - k := ⟨_, rfl⟩
      have hl' := hown.1
      have htk : ((numB x sz).take k).length = k := by simp [numB_length]; omega
      have hs1 : IntKind.i64.wrap ((sz : Int) - 1) = (sz : Int) - 1 := IntWalk.i64_in _ (by omega)
      have hs2 : IntKind.i64.wrap ((sz : Int) - 1 - (k : Int)) = (e : Int) := by rw [IntWalk.i64_in _ (by omega)]; omega
      have hs3 : IntKind.i64.wrap (8 * (e : Int)) = 8 * (e : Int) := IntWalk.i64_in _ (by omega)
      have hs4 : (0 : Int) ≤ 8 * (e : Int) := by omega
      have hlen : (l ++ (numB x sz).take k).length ≤ 1099511627786 := by simp [htk]; omega
      have HE := Lib.hid he
      have HTK := Lib.hid htk
      clear he htk hl'
      have hne := own_ne hown hblk (by decide)
      have hgs := blk_lt hblk
      have hbs := hbw.size
      have hBr : B ≤ wr.heap.size + 1 := by omega
      have hput := fun (o : Obj) (w1 : World) (v' : Value) (hg1 : ((wr.alloc o).drew).grownBy w1 v.ownBlock) (hat : v'.ownBlock = v.ownBlock ∨ v'.ownBlock = some (wr.alloc o).drew.heap.size) (hone1 : One w1 g 86 v) => spares_put (v' := v') hblk (((Below.refl _ _).alloc (Nat.le_refl _) o).drew) hg1 hat hone1
      have HPUT := Lib.hid hput
      clear hput
      have HSP := Lib.hid hsp
      clear hsp
      go_wp2
      go_region_law
        ((refine step_append_any _ (by rfl) _ _ _ (by rfl) B 5 i0 _ 1 1 Try.underlying22 hi0 hz0 hz1 hz2 rfl (by omega) v _ _ (by rfl) ((hown.alloc _).drew) _ _ 1 1 _ (by rfl) (Reads.one _ _ _) (by simp [Value.oneCell']) (by unfold maxLen; omega) (by omega) (by simpa using hBr) ?_; intro v' w1 hown1 hg1 hat1; obtain ⟨A', c', rfl⟩ := own_slice hown1; have HH := Lib.hid (HPUT.out _ w1 (.slice A' _ c') hg1 hat1); obtain ⟨hone1, hc1, hf1⟩ := (hone.grownA hg1 hne).all))
      all_goals
        go_wp2
        go_roundw
        case rel =>
          exact ⟨k + 1, by omega, by go_num, IsW.put hBg hone1 hown1 (by rw [numB_take _ _ _ hlt, ← HE.out, List.length_append, List.length_append, List.length_append, HTK.out]; simp; omega) (by simp) (by rw [numB_take _ _ _ hlt, ← HE.out, byte_of_shr _ _ (by have := HE.out; omega), ← List.append_assoc]; simp [bv]),
            ((hbw.alloc (by omega) _).drew.grown hg1 (by simpa using hBr) (fun k hk => own_base hown k hk)).setCell hBg _, HSP.out.trans (by simpa using HH.out hone1)⟩
        case measure => simp [intOf]; omega
    · have hks : k = sz := by omega
      subst hks
      go_wp2
      go_end0
      exact ⟨rfl, ⟨hBg, v, hblk, by rwa [List.take_of_length_le (by simp [numB_length])] at hown⟩, hbw, hsp⟩

end Go.Proofs.Ythnehmfpadahiaa
