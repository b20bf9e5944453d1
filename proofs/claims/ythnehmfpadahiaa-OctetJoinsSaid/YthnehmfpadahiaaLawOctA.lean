/- Laws of octet: OctetJoins. -/
import Derived.Test.YthnehmfpadahiaaOctZ
namespace Go.Proofs.Ythnehmfpadahiaa
open Go.RowKit
set_option linter.unusedVariables false
set_option linter.unusedSimpArgs false

theorem raw_split (L : List UInt8) (k : Nat) (hk : k ≤ L.length) : takeL L 0 k = L.take k ∧ takeR L 0 k = L.drop k ∧ takeE L 0 k = 0 := by
  have h : ¬ L.length < k := by omega
  simp [takeL, takeR, takeE, h]

theorem own_at {w w1 : World} {base g : Nat} {e : TypeId} {size n : Nat} {v : Value} {xs : List Value} (h : w.ownsRow base e size v n xs) (hA : At g w w1) (hg : g < base) : w1.ownsRow base e size v n xs := by
  obtain ⟨h1, h2⟩ := h
  refine ⟨h1, ?_⟩
  rcases h2 with h2 | ⟨g', cap, cur, hv, hg', hh, r⟩
  · exact Or.inl h2
  · exact Or.inr ⟨g', cap, cur, hv, hg', (hA.block g' (blk_lt hh) (fun e => by injection e with e; omega)).trans hh, r⟩

set_option maxRecDepth 100000 in
theorem octJoins_law (w : World) (A : Option Addr) (n c : Nat) (l : List UInt8) (h : Sl w w.heap.size A n c l) (A1 : Option Addr) (n1 c1 : Nat) (l1 : List UInt8) (h1 : Sl w w.heap.size A1 n1 c1 l1) (X : Int) (hX : 0 ≤ X) (hX' : X ≤ 65535) :
    Calls Try.prog 13 #[.slice A n c, .slice A1 n1 c1, .int .u16 X] w fun e w' => e = .returned (.bool true) ∧ Below w.heap.size w w' := by
  by_cases hn : 300 < n
  · have hnb : decide (300 < (n : Int)) = true := decide_eq_true (by omega)
    go_enter Try.func13, Try.ntmps13
    go_wp2_with (first | (go_at_call 23; refine (awake1 _).mono ?_; rintro e w1 ⟨rfl, hb1⟩))
    go_ret
    exact ⟨rfl, hb1⟩
  have hnb : decide (300 < (n : Int)) = false := decide_eq_false (by omega)
  by_cases hn1 : 300 < n1
  · have hnb1 : decide (300 < (n1 : Int)) = true := decide_eq_true (by omega)
    clear hn
    go_enter Try.func13, Try.ntmps13
    go_wp2_with (first | (go_at_call 23; refine (awake1 _).mono ?_; rintro e w1 ⟨rfl, hb1⟩))
    go_ret
    exact ⟨rfl, hb1⟩
  have hnb1 : decide (300 < (n1 : Int)) = false := decide_eq_false (by omega)
  have hn' : n ≤ 300 := by omega
  have hn1' : n1 ≤ 300 := by omega
  obtain ⟨x, rfl⟩ := Int.eq_ofNat_of_zero_le hX
  clear hn hn1
  have HL := Lib.hid h.len
  have HL1 := Lib.hid h1.len
  go_enter Try.func13, Try.ntmps13
  go_wp2_with (first | (go_at_call 23; refine (awake1 _).mono ?_; rintro e w1 ⟨rfl, hb1⟩))
  refine (new_w w1).mono ?_
  rintro e w2 ⟨rfl, hW2, hb2'⟩
  have hb2 := hb1.trans (hb2'.mono hb1.size)
  have h2 := h.belowX hb2
  have hz2 := hb2'.size
  obtain ⟨g, hg⟩ : ∃ g, w1.heap.size = g := ⟨_, rfl⟩
  have hwg : w.heap.size ≤ g := by rw [← hg]; exact hb1.size
  rw [hg] at hW2 hz2 hb2' ⊢
  go_wp2_with fail
  refine (raw_any _ _ _ _ hW2 hz2 _ _ _ _ _ h2 (by simp; omega)).mono ?_
  rintro e w3 ⟨rfl, hW3, hb3'⟩
  have hb3 := hb2.trans (hb3'.mono hwg)
  have h3 := h1.belowX hb3
  have hz3 : g ≤ w3.heap.size := by have := hb3'.size; omega
  go_wp2_with fail
  refine (raw_any _ _ _ _ hW3 hz3 _ _ _ _ _ h3 (by have := HL.out; simp; omega)).mono ?_
  rintro e w4 ⟨rfl, hW4, hb4'⟩
  have hb4 := hb3.trans (hb4'.mono hwg)
  obtain ⟨L, hL⟩ : ∃ L, L = [] ++ l ++ l1 := ⟨_, rfl⟩
  rw [← hL] at hW4
  have HLL := Lib.hid hL
  have hLL : L.length = n + n1 := by rw [hL]; have := HL.out; have := HL1.out; simp; omega
  have HLN := Lib.hid hLL
  clear hL hLL hW2 hW3
  go_wp2_with fail
  refine (out_any _ _ _ _ hW4 (by rw [HLN.out]; omega)).mono ?_
  rintro e w5 ⟨A5, n5, c5, rfl, ho5, hb5'⟩
  have hb5 := hb4.trans (hb5'.mono hb4.size)
  have hs5 := Sl.of_own ho5
  have hn5 : n5 = n + n1 := by rw [← hs5.len]; exact HLN.out
  have HN5 := Lib.hid hn5
  have hcv0 := string_of_sl (P := Try.prog) Try.underlying22 Try.underlying5 Try.underlying9 (h.belowX hb5)
  have hcv1 := string_of_sl (P := Try.prog) Try.underlying22 Try.underlying5 Try.underlying9 (h1.belowX hb5)
  have hcv2 := string_of_sl (P := Try.prog) Try.underlying22 Try.underlying5 Try.underlying9 hs5
  have hn5b : n5 ≤ 600 := by omega
  clear hn5 h2 h3 hW4
  have hcat : ((⟨l.toArray⟩ : ByteArray) ++ (⟨l1.toArray⟩ : ByteArray)) = (⟨L.toArray⟩ : ByteArray) := by
    rw [HLL.out, List.nil_append]; simp [ByteArray.ext_iff]
  obtain ⟨k, hk, hkn⟩ : ∃ k : Nat, (x : Int) % ((n5 : Int) + 1) = (k : Int) ∧ k ≤ n5 := ⟨x % (n5 + 1), by simp, by have := Nat.mod_lt x (show 0 < n5 + 1 by omega); omega⟩
  have hll := HL.out
  have hll1 := HL1.out
  have HK := Lib.hid hk
  clear ho5 hk
  go_wp2_with fail
  clear hcat hcv0 hcv1 hll hll1
  rw [HK.out]
  refine (new_r _ _ _ _ _ _ hs5 (by omega)).mono ?_
  rintro e w6 ⟨gr, rfl, hR6, hgr, hb6'⟩
  have hb6 := hb5.trans (hb6'.mono hb5.size)
  have hs6 := hs5.below hb6'
  have hgrw : w.heap.size ≤ gr := Nat.le_trans hb5.size hgr
  have hz56 := hb6'.size
  clear hb6'
  go_wp2_with fail
  refine (rraw_any _ _ _ _ k hR6 (by rw [HLN.out]; omega)).mono ?_
  rintro e w7 ⟨A7, n7, c7, rfl, ho7, hR7, hA7⟩
  obtain ⟨e1, e2, e3⟩ := raw_split L k (by rw [HLN.out, ← HN5.out]; exact hkn)
  rw [e1] at ho7
  rw [e2, e3] at hR7
  clear e1 e2 e3
  have hb7 := hb6.trans (hA7.below hgrw hb6.size)
  have hs7 := hs6.below (hA7.below hgr hz56)
  have hz57 := hA7.size
  go_wp2_with fail
  refine (rraw_i _ _ _ _ _ (by omega) hR7 (by have := HLN.out; rw [List.length_drop]; omega)).mono ?_
  rintro e w8 ⟨A8, n8, c8, rfl, ho8, hR8, hA8⟩
  obtain ⟨e1, e2, e3⟩ := raw_split (L.drop k) ((n5 : Int) - (k : Int)).toNat (by have := HLN.out; have := HN5.out; rw [List.length_drop]; omega)
  have e4 : (L.drop k).length ≤ ((n5 : Int) - (k : Int)).toNat := by have := HLN.out; have := HN5.out; rw [List.length_drop]; omega
  rw [List.take_of_length_le e4] at e1
  rw [List.drop_of_length_le e4] at e2
  rw [e1] at ho8
  rw [e2, e3] at hR8
  clear e1 e2 e3 e4
  have hb8 := hb7.trans (hA8.below hgrw hb7.size)
  have hs8 := hs7.below (hA8.below hgr (by omega))
  have hs78 := Sl.of_own (own_at ho7 hA8 hR6.lt)
  obtain ⟨P, hP⟩ : ∃ P, L.take k = P := ⟨_, rfl⟩
  obtain ⟨R, hR⟩ : ∃ R, L.drop k = R := ⟨_, rfl⟩
  have hPR : P ++ R = L := by rw [← hP, ← hR, List.take_append_drop]
  have hPl : P.length + R.length = L.length := by rw [← hPR]; simp
  rw [hP] at hs78
  rw [hR] at ho8
  have hcv0 := string_of_sl (P := Try.prog) Try.underlying22 Try.underlying5 Try.underlying9 hs8
  have hcv1 := string_of_sl (P := Try.prog) Try.underlying22 Try.underlying5 Try.underlying9 hs78
  have hcv3 := string_of_sl (P := Try.prog) Try.underlying22 Try.underlying5 Try.underlying9 (Sl.of_own ho8)
  have hcat : ((⟨P.toArray⟩ : ByteArray) ++ (⟨R.toArray⟩ : ByteArray)) = (⟨L.toArray⟩ : ByteArray) := by
    rw [← hPR]; simp [ByteArray.ext_iff]
  have hlb : P.length + R.length ≤ 600 := by have := HLN.out; omega
  have hPb : P.length ≤ 600 := by omega
  have hRb : R.length ≤ 600 := by omega
  have hraw0 := rraw_i w8 gr [] 0 0 (by omega) hR8 (by decide)
  have t1 : takeL [] 0 (0 : Int).toNat = [] := by decide
  have t2 : takeR [] 0 (0 : Int).toNat = [] := by decide
  have t3 : takeE [] 0 (0 : Int).toNat = 0 := by decide
  rw [t1, t2, t3] at hraw0
  clear t1 t2 t3 hP hR hPR hPl hs7 hs6 hs5 hcv2 ho7 ho8 hs8 hs78 hR6 hR7
  go_wp2_with (first | (go_at_call 37; refine (end_any _ _ _ _ hR8).mono ?_; rintro r w' ⟨rfl, rfl⟩) | (go_at_call 38; refine (err_any _ _ _ _ hR9).mono ?_; rintro r w' ⟨rfl, rfl⟩) | (go_at_call 40; refine hraw0.mono ?_; rintro r w9 ⟨A9, n9, c9, rfl, ho9, hR9, hA9⟩; have hn9 : n9 = 0 := by { have := ho9.1; simpa [bv] using this.symm }; subst hn9))
  go_ret
  exact ⟨rfl, hb8.trans (hA9.below hgrw hb8.size)⟩

end Go.Proofs.Ythnehmfpadahiaa
