/- Laws of octet: OctetShort. -/
import Derived.Test.YthnehmfpadahiaaVarP
namespace Go.Proofs.Ythnehmfpadahiaa
open Go.RowKit
set_option linter.unusedVariables false
set_option linter.unusedSimpArgs false

theorem Sl.at_ {w w' : World} {B g : Nat} {A : Option Addr} {n c : Nat} {l : List UInt8} (h : Sl w B A n c l) (hA : At g w w') (hB : B ≤ w.heap.size) (hne : ∀ ad : Addr, A = some ad → ad.block ≠ g) : Sl w' B A n c l := by
  refine ⟨⟨h.reads.1, fun hn => ?_⟩, h.len, h.cap, h.nil⟩
  obtain ⟨ad, rfl, hb, hc⟩ := h.reads.2 hn
  refine ⟨ad, rfl, hb, fun j u hu => ?_⟩
  have h1 := hc j u hu
  rw [← h1]
  refine World.cell?_of_block ?_
  rw [block_of_add]
  exact hA.block _ (by omega) (fun e => by injection e with e; exact hne ad rfl e)

/-- Of a new reader: what another block's turn leaves of it. -/
theorem new_r2 (w : World) (B : Nat) (A : Option Addr) (n c : Nat) (l : List UInt8) (h : Sl w B A n c l) (hn : n ≤ 140737488355328) :
    Calls Try.prog 33 #[.slice A n c] w fun e w' => ∃ g, e = .returned (.pointer (some ⟨g, 0, none⟩)) ∧ IsR w' g l 0 ∧ w.heap.size ≤ g ∧ Below w.heap.size w w' ∧ ∀ k w'', k < w.heap.size → At k w' w'' → IsR w'' g l 0 := by
  have HL := Lib.hid h.len
  have hcl := fun w' (hs : Sl w' B A n c l) => clone_any w' B A n c l hs hn
  go_enter Try.func33, Try.ntmps33
  go_wp2_with (first | (go_at_call 45; refine (hcl _ h).mono ?_; rintro e w' ⟨v', rfl, hown', hb'⟩; obtain ⟨A', c', rfl⟩ := own_slice hown'))
  go_ret
  have hs := Sl.of_own hown'
  have hs' := hs.keep (w' := w'.alloc (.cells #[.slice A' n c', .int .i64 0] 89)) fun k hk => Below.heap_alloc _ _ _ hk
  refine ⟨_, rfl, ⟨A', n, c', heap_alloc_new _ _, hs'⟩, hb'.size, hb'.alloc hb'.size _, fun k w'' hk hA => ⟨A', n, c', ?_, hs'.at_ hA (by simp) ?_⟩⟩
  · rw [hA.block _ (by simp) (fun e => by injection e with e; have := hb'.size; omega)]
    exact heap_alloc_new _ _
  · intro ad had e
    subst had
    have := own_base hown' ad.block rfl
    omega

set_option maxRecDepth 100000 in
theorem octShort_law (w : World) (X M : Int) (hX : 0 ≤ X) (hX' : X ≤ 18446744073709551615) (hM : 0 ≤ M) (hM' : M ≤ 255) :
    Calls Try.prog 11 #[.int .u64 X, .int .u8 M] w fun e w' => e = .returned (.bool true) ∧ Below w.heap.size w w' := by
  obtain ⟨i0, hi0, hz0, hz1, hz2⟩ := info_parts info_u8
  obtain ⟨x, rfl⟩ := Int.eq_ofNat_of_zero_le hX
  obtain ⟨m, rfl⟩ := Int.eq_ofNat_of_zero_le hM
  have hx : x < 18446744073709551616 := by omega
  go_enter Try.func11, Try.ntmps11
  go_wp2_with (first | (go_at_call 23; refine (awake1 _).mono ?_; rintro e w1 ⟨rfl, hb1⟩))
  refine (new_w w1).mono ?_
  rintro e w2 ⟨rfl, hW2, hb2'⟩
  have hb2 := hb1.trans (hb2'.mono hb1.size)
  have hy2 := hb2'.size
  obtain ⟨g, hg⟩ : ∃ g, w1.heap.size = g := ⟨_, rfl⟩
  have hwg : w.heap.size ≤ g := by rw [← hg]; exact hb1.size
  rw [hg] at hW2 hy2 hb2' ⊢
  go_wp2_with fail
  refine (var_i _ _ _ _ _ hW2 (by omega) (by omega) (by simp) hy2).mono ?_
  rintro e w3 ⟨rfl, hW3, hb3'⟩
  have hb3 := hb2.trans (hb3'.mono hwg)
  rw [Int.toNat_natCast, List.nil_append] at hW3
  have hvl := varB_len10 x hx
  obtain ⟨V, hV⟩ : ∃ V, varB x = V := ⟨_, rfl⟩
  rw [hV] at hW3 hvl
  have HV := Lib.hid hV
  clear hV
  go_wp2_with fail
  refine (out_any _ _ _ _ hW3 (by omega)).mono ?_
  rintro e w4 ⟨A, n, c, rfl, ho4, hb4'⟩
  have hb4 := hb3.trans (hb4'.mono hb3.size)
  have hs4 := Sl.of_own ho4
  have hn := hs4.len
  have hn10 : n ≤ 10 := by omega
  have HN := Lib.hid hn
  clear hn hvl hW2 hW3 ho4
  go_wp2_with fail
  go_loop [8, 9] (fun v y => ∃ (q j : Nat) (acc : List UInt8), y = .int .u64 (q : Int) ∧ q ≤ 18446744073709551615 ∧ VInv x q acc ∧ j = acc.length ∧ v = .int .i64 ((j : Int) + 1)) (fun _ y => (intOf y).toNat)
  case atStart => exact ⟨x / 128, 0, [], by simp, by omega, VInv.start x hx, rfl, rfl⟩
  case round =>
    obtain ⟨q, j, acc, rfl, hq, hinv, hj, rfl⟩ := hrel
    have hl := hinv.len
    have hj10 : j ≤ 10 := by omega
    by_cases hpos : 0 < q
    · go_wp2
      have hst := hinv.step (show q ≠ 0 by omega)
      exact ⟨⟨q / 128, j + 1, _, by simp, by omega, hst, by simp [hj], by simp [hj]⟩, by simp [intOf]; omega⟩
    · have hq0 : q = 0 := by omega
      subst hq0
      have hd := hinv.done
      have hjn : n = j + 1 := by rw [← HN.out, ← HV.out, varB_eq, hj, hd]; simp
      clear hd hinv hj
      subst hjn
      obtain ⟨K, hK, hK12⟩ : ∃ K : Nat, (m : Int) % 12 = (K : Int) ∧ K ≤ 11 := ⟨m % 12, by simp, by omega⟩
      go_wp2
      go_loopw [10, 11] (fun v i wr => ∃ (k : Nat) (A' : Option Addr) (c' : Nat), i = .int .i64 (k : Int) ∧ k ≤ K + 1 ∧ v = .slice A' k c' ∧ wr.ownsRow w4.heap.size 5 1 (.slice A' k c') k (bv (List.replicate k 128)) ∧ Below w4.heap.size w4 wr) (fun _ i _ => K + 1 - (intOf i).toNat)
      case atStart => exact ⟨0, none, 0, rfl, by omega, rfl, own_nil _ _, Below.refl _ _⟩
      case round =>
        obtain ⟨k, A', c', rfl, hk, rfl, hown, hbw⟩ := hrel
        by_cases hlt : k < K + 1
        · have hbs := hbw.size
          go_wp2_with (first | (at_builtin; refine wpList_append_any _ rfl _ _ _ rfl w4.heap.size 5 i0 _ 1 1 Try.underlying22 hi0 hz0 hz1 hz2 rfl (by omega) (.slice A' k c') k _ rfl (hown.alloc _) _ _ 1 1 _ rfl (Reads.one _ _ _) (by simp [Value.oneCell']) (by unfold maxLen; omega) (by omega) (by simp; omega) ?_; intro v' w5 hown5 hg5 hat5; obtain ⟨A5, c5, rfl⟩ := own_slice hown5))
          refine ⟨⟨k + 1, A5, c5, by simp, by omega, rfl, ?_, (hbw.alloc hbs _).grown hg5 (by simp; omega) (fun k hk => own_base hown k hk)⟩, by simp [intOf]; omega⟩
          rw [List.replicate_succ', bv_append]
          exact hown5
        · have hkK : k = K + 1 := by omega
          subst hkK
          have hbs := hbw.size
          have hs5 := hs4.below hbw
          have hnn : Hid (V.length = j + 1) := HN
          clear hlt hk
          go_wp2_with (first | (at_builtin; refine wpList_append_any _ rfl _ _ _ rfl w4.heap.size 5 i0 _ 1 1 Try.underlying22 hi0 hz0 hz1 hz2 rfl (by omega) (.slice A' (K + 1) c') (K + 1) _ rfl hown _ A (j + 1) c _ rfl hs5.reads (bv_one V) (by unfold maxLen; omega) (by omega) hbs ?_; intro v' w5 hown5 hg5 hat5; obtain ⟨A5, c5, rfl⟩ := own_slice hown5))
          rw [← bv_append] at hown5
          have hb5' : Below w4.heap.size w4 w5 := hbw.grown hg5 hbs (fun k hk => own_base hown k hk)
          have hb5 := hb4.trans (hb5'.mono hb4.size)
          have hs6 := hs4.below hb5'
          refine (new_r _ _ _ _ _ _ (Sl.of_own hown5) (by omega)).mono ?_
          rintro e w6 ⟨gr, rfl, hR6, hgr, hb6'⟩
          have hb6 := hb5.trans (hb6'.mono hb5.size)
          have hs7 := hs6.belowX hb6'
          have hgw : w.heap.size ≤ gr := Nat.le_trans hb5.size hgr
          obtain ⟨A6, hcut6, hsl6⟩ := cut_h (P := Try.prog) 22 5 .i64 Try.underlying22 hi0 hz1 A (j + 1) c j (by have := hs4.cap; omega)
          have hs8 := hsl6 _ _ _ (by omega) hs7
          obtain ⟨v1, v2⟩ := var_longer x K hx
          obtain ⟨v3, v4⟩ := var_shorter x j hx (by rw [HV.out]; exact hnn.out.symm)
          rw [HV.out] at v1 v2 v3 v4
          obtain ⟨LL, hLL⟩ : ∃ LL, List.replicate (K + 1) 128 ++ V = LL := ⟨_, rfl⟩
          have hLLl : LL.length ≤ 30 := by rw [← hLL, List.length_append, List.length_replicate, hnn.out]; omega
          obtain ⟨SS, hSS⟩ : ∃ SS, V.take j = SS := ⟨_, rfl⟩
          have hSSl : SS.length ≤ 30 := by rw [← hSS, List.length_take]; omega
          rw [hLL] at v1 v2 hR6
          rw [hSS] at v3 v4 hs8
          clear hLL hSS hown5 hs5 hs6 hs7 hown hsl6 hg5 hat5 hnn
          have V1 := Lib.hid v1
          have V2 := Lib.hid v2
          have V3 := Lib.hid v3
          have V4 := Lib.hid v4
          clear v1 v2 v3 v4
          go_wp2_with fail
          refine (new_r2 _ _ _ _ _ _ hs8 (by omega)).mono ?_
          rintro e w7 ⟨gs, rfl, hR7, hgs, hb7', hkeep⟩
          have hb7 := hb6.trans (hb7'.mono hb6.size)
          have hR6' := hR6.below hb7' hR6.lt
          have hgs' : w.heap.size ≤ gs := Nat.le_trans hb6.size hgs
          go_wp2_with fail
          refine (rvar_any _ _ _ _ hR6' (by omega)).mono ?_
          rintro e w8 ⟨y, rfl, hy, _, hR8, hA8⟩
          have hy0 := hy.out
          rw [V1.out] at hy0
          subst hy0
          rw [V2.out] at hR8
          have hR8s := hkeep gr w8 hR6.lt hA8
          have hb8 := hb7.trans (hA8.below hgw hb7.size)
          clear hy hkeep hR7 hR6 hR6' hs8
          go_wp2_with (first | (go_at_call 38; refine (err_any _ _ _ _ hR8).mono ?_; rintro r w' ⟨rfl, rfl⟩))
          refine (rvar_any _ _ _ _ hR8s (by omega)).mono ?_
          rintro e w9 ⟨y, rfl, hy, _, hR9, hA9⟩
          have hy0 := hy.out
          rw [V3.out] at hy0
          subst hy0
          rw [V4.out] at hR9
          have hb9 := hb8.trans (hA9.below hgs' hb8.size)
          clear hy hR8 hR8s
          go_wp2_with (first | (go_at_call 38; refine (err_any _ _ _ _ hR9).mono ?_; rintro r w' ⟨rfl, rfl⟩))
          go_ret
          exact ⟨rfl, hb9⟩

end Go.Proofs.Ythnehmfpadahiaa
