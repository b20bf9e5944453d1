/- branch.Find: the comparing closure, the binary search. -/
import Derived.Test.YtmljfjmceakahaaBranch
import Derived.Test.YtmljfjmceakahaaBCmp
namespace Go.Proofs.Ytmljfjmceakahaa
open Go.RowKit
set_option linter.unusedVariables false
set_option linter.unusedSimpArgs false

theorem fcmp_any (w : World) (B D : Nat) (Ak : Option Addr) (nk ck : Nat) (ky : List UInt8) (h : Sl w B Ak nk ck ky) (hB : B ≤ w.heap.size) (x : Nat) (A' : Option Addr) (n' c' : Nat) (key : List UInt8) (h' : Sl w D A' n' c' key) (hD : D ≤ w.heap.size) :
    Calls Try.prog 49 #[.agg #[.slice Ak nk ck, .int .u32 (x : Int)], .slice A' n' c'] w fun e w' => e = .returned (.int .i64 (Lib.compareBytes ky key)) ∧ Below w.heap.size w w' := by
  go_enter Try.func49, Try.ntmps49
  go_wp2_with fail
  refine (bcmp_any _ B D _ _ _ _ _ _ _ _ (h.below ((Below.refl _ _).alloc hB _)) (h'.below ((Below.refl _ _).alloc hD _))).mono ?_
  rintro e w1 ⟨rfl, rfl⟩
  go_wp2_with fail
  go_ret
  exact ⟨rfl, (Below.refl _ _).alloc (Nat.le_refl _) _⟩

/-- How entry j's key stands to a key. -/
def bRk (es : List (List UInt8 × Nat)) (key : List UInt8) (j : Nat) : Int := match es[j]? with | some e => Lib.compareBytes e.1 key | none => 1
def BSP (es : List (List UInt8 × Nat)) (key : List UInt8) (n : Nat) (w : World) (e : Ending) (w' : World) : Prop :=
  ∃ (p : Nat) (b : Bool), e = .returned (.tuple #[.int .i64 (p : Int), .bool b]) ∧ p ≤ n ∧ (∀ j, j < p → bRk es key j < 0) ∧ (∀ j, p ≤ j → j < n → 0 ≤ bRk es key j) ∧ (b = true ↔ p < n ∧ bRk es key p = 0) ∧ Below w.heap.size w w'

set_option maxRecDepth 100000 in
set_option maxHeartbeats 1000000 in
theorem bsearch_any (w : World) (B D : Nat) (A : Option Addr) (n c : Nat) (es : List (List UInt8 × Nat)) (h : Ents w B A n es) (hBw : B ≤ w.heap.size) (hn : n ≤ 1000000) (A' : Option Addr) (n' c' : Nat) (key : List UInt8) (h' : Sl w D A' n' c' key) (hD : D ≤ w.heap.size)
    (hmono : ∀ i j, i ≤ j → j < n → bRk es key j < 0 → bRk es key i < 0) :
    Calls Try.prog 48 #[.slice A n c, .slice A' n' c', .func (.func 49) #[] #[]] w (BSP es key n w) := by
  have hcall : ∀ W k, Below w.heap.size w W → k < n → ∃ ad Ak nk ck x, A = some ad ∧ W.cell? (ad.add (k * 2)) = some (.slice Ak nk ck) ∧ W.cell? ⟨(ad.add (k * 2)).block, (ad.add (k * 2)).off + 1, none⟩ = some (.int .u32 ((x : Nat) : Int)) ∧
      Calls Try.prog 49 #[.agg #[.slice Ak nk ck, .int .u32 (x : Int)], .slice A' n' c'] W fun e w' => e = .returned (.int .i64 (bRk es key k)) ∧ Below W.heap.size W w' := by
    intro W k hW hk
    obtain ⟨ky, x, ad, Ak, nk, ck, he, hx, hA, hB, a0, a1, hsl⟩ := (h.below (hW.mono hBw)).at_ hk
    refine ⟨ad, Ak, nk, ck, x, hA, a0, a1, ?_⟩
    have hr : bRk es key k = Lib.compareBytes ky key := by simp [bRk, he]
    rw [hr]
    exact fcmp_any W B D _ _ _ _ hsl (Nat.le_trans hBw hW.size) x _ _ _ _ (h'.below (hW.mono hD)) (Nat.le_trans hD hW.size)
  clear h h'
  go_enter Try.func48, Try.ntmps48
  go_wp2_with fail
  go_loopw [9, 10] (fun i j wr => ∃ a b : Nat, a ≤ b ∧ b ≤ n ∧ i = .int .i64 (a : Int) ∧ j = .int .i64 (b : Int) ∧ (∀ x, x < a → bRk es key x < 0) ∧ (∀ x, b ≤ x → x < n → 0 ≤ bRk es key x) ∧ Below w.heap.size w wr) (fun i j _ => (intOf j).toNat - (intOf i).toNat)
  case atStart => exact ⟨0, n, Nat.zero_le _, Nat.le_refl _, rfl, rfl, fun x hx => by omega, fun x h1 h2 => by omega, Below.refl _ _⟩
  case round =>
    obtain ⟨a, b, hab, hbn, rfl, rfl, hlo, hhi, hbw⟩ := hrel
    by_cases hlt : a < b
    · obtain ⟨m, hm⟩ : ∃ m, (a + b) / 2 = m := ⟨_, rfl⟩
      have hma : a ≤ m := by omega
      have hmb : m < b := by omega
      obtain ⟨ad, Ak, nk, ck, x, rfl, b0, b1, hcl⟩ := hcall wr m hbw (by omega)
      obtain ⟨r, hr⟩ : ∃ r, bRk es key m = r := ⟨_, rfl⟩
      rw [hr] at hcl
      have hmn : m < n := by omega
      have hmI : ((a : Int) + (b : Int)) / 2 = (m : Int) := by omega
      have hbs := hbw.size
      by_cases hneg : r < 0
      · have hlo2 : ∀ x, x < m + 1 → bRk es key x < 0 := fun x hx => hmono x m (by omega) hmn (by rw [hr]; exact hneg)
        have hnd : decide (r < 0) = true := decide_eq_true hneg
        clear hr hlo
        go_wp2_with fail
        refine hcl.mono ?_
        rintro e w1 ⟨rfl, hb1⟩
        have hbn' := hbw.trans (hb1.mono hbs)
        clear hcl b0 b1
        go_wp2_with fail
        refine ⟨⟨m + 1, b, by omega, hbn, by go_num, rfl, hlo2, hhi, hbn'⟩, by simp [intOf]; omega⟩
      · have hhi2 : ∀ x, m ≤ x → x < n → 0 ≤ bRk es key x := fun x h1 h2 => by
          rcases Int.lt_or_le (bRk es key x) 0 with h3 | h3
          · have := hmono m x h1 h2 h3
            omega
          · exact h3
        have hnd : decide (r < 0) = false := decide_eq_false hneg
        clear hr hhi
        go_wp2_with fail
        refine hcl.mono ?_
        rintro e w1 ⟨rfl, hb1⟩
        have hbn' := hbw.trans (hb1.mono hbs)
        clear hcl b0 b1
        go_wp2_with fail
        refine ⟨⟨a, m, hma, by omega, rfl, by go_num, hlo, hhi2, hbn'⟩, by simp [intOf]; omega⟩
    · obtain rfl : a = b := by omega
      have hbs := hbw.size
      by_cases han : a < n
      · obtain ⟨ad, Ak, nk, ck, x, rfl, b0, b1, hcl⟩ := hcall wr a hbw han
        obtain ⟨r, hr⟩ : ∃ r, bRk es key a = r := ⟨_, rfl⟩
        rw [hr] at hcl
        have hpost : ∀ w', Below w.heap.size w w' → BSP es key n w (.returned (.tuple #[.int .i64 (a : Int), .bool (r == 0)])) w' := fun w' hb => ⟨a, r == 0, rfl, hbn, hlo, hhi, by simp [han, hr], hb⟩
        clear hlo hhi hr hmono
        go_wp2_with fail
        refine hcl.mono ?_
        rintro e w1 ⟨rfl, hb1⟩
        have hbn' := hbw.trans (hb1.mono hbs)
        clear hcl b0 b1
        go_wp2_with fail
        go_ret2
        exact hpost _ hbn'
      · have hpost : ∀ w', Below w.heap.size w w' → BSP es key n w (.returned (.tuple #[.int .i64 (a : Int), .bool false])) w' := fun w' hb => ⟨a, false, rfl, hbn, hlo, hhi, by simp [han], hb⟩
        clear hlo hhi hmono
        go_wp2_with fail
        go_ret2
        exact hpost _ hbw

/-- What Find tells: the last entry whose key isn't behind the key. -/
def BFP (es : List (List UInt8 × Nat)) (key : List UInt8) (n : Nat) (w : World) (e : Ending) (w' : World) : Prop :=
  ∃ i : Nat, e = .returned (.int .i64 (i : Int)) ∧ i < n ∧ bRk es key i ≤ 0 ∧ (∀ j, i < j → j < n → 0 < bRk es key j) ∧ Below w.heap.size w w'

set_option maxRecDepth 100000 in
theorem bfind_any (w : World) (B D : Nat) (A : Option Addr) (n c : Nat) (es : List (List UInt8 × Nat)) (h : Ents w B A n es) (hBw : B ≤ w.heap.size) (hn : n ≤ 1000000) (hn1 : 1 ≤ n) (A' : Option Addr) (n' c' : Nat) (key : List UInt8) (h' : Sl w D A' n' c' key) (hD : D ≤ w.heap.size)
    (hst : ∀ i j, i < j → j < n → 0 ≤ bRk es key i → 0 < bRk es key j) (h0 : bRk es key 0 ≤ 0) :
    Calls Try.prog 23 #[.slice A n c, .slice A' n' c'] w (BFP es key n w) := by
  have hmono : ∀ i j, i ≤ j → j < n → bRk es key j < 0 → bRk es key i < 0 := fun i j hij hj hneg => by
    rcases Nat.lt_or_ge i j with h1 | h1
    · rcases Int.lt_or_le (bRk es key i) 0 with h2 | h2
      · exact h2
      · have := hst i j h1 hj h2
        omega
    · obtain rfl : i = j := by omega
      exact hneg
  have hb := bsearch_any w B D A n c es h hBw hn A' n' c' key h' hD hmono
  clear h h' hmono
  go_enter Try.func23, Try.ntmps23
  go_wp2_with fail
  refine hb.mono ?_
  rintro e w1 ⟨p, b, rfl, hpn, hlo, hhi, hbb, hb1⟩
  cases b with
  | true =>
    obtain ⟨hp1, hp2⟩ := hbb.1 rfl
    have hpost : BFP es key n w (.returned (.int .i64 (p : Int))) w1 := ⟨p, rfl, hp1, by omega, fun j hj hjn => hst p j hj hjn (by omega), hb1⟩
    clear hb hbb hlo hhi hst h0 hp2
    go_wp2_with fail
    go_ret
    exact hpost
  | false =>
    have hp0 : 0 < p := by
      rcases Nat.eq_zero_or_pos p with h1 | h1
      · subst h1
        have := hhi 0 (Nat.le_refl _) (by omega)
        have := hbb.2 ⟨by omega, by omega⟩
        cases this
      · exact h1
    obtain ⟨q, rfl⟩ : ∃ q, p = q + 1 := ⟨p - 1, by omega⟩
    have hpost : BFP es key n w (.returned (.int .i64 (q : Int))) w1 := by
      refine ⟨q, rfl, by omega, Int.le_of_lt (hlo q (by omega)), fun j hj hjn => ?_, hb1⟩
      have h1 := hhi j (by omega) hjn
      rcases Nat.lt_or_ge (q + 1) j with h2 | h2
      · exact hst (q + 1) j h2 hjn (hhi (q + 1) (Nat.le_refl _) (by omega))
      · obtain rfl : j = q + 1 := by omega
        rcases Int.lt_or_le 0 (bRk es key (q + 1)) with h3 | h3
        · exact h3
        · have := hbb.2 ⟨hjn, by omega⟩
          cases this
    clear hb hbb hlo hhi hst h0
    go_wp2_with fail
    go_ret
    exact hpost

end Go.Proofs.Ytmljfjmceakahaa
