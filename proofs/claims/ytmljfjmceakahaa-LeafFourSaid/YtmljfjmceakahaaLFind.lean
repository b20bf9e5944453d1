/- leaf.Find: the comparing closure, the binary search. -/
import Derived.Test.YtmljfjmceakahaaLeaf
import Derived.Test.YtmljfjmceakahaaBCmp
namespace Go.Proofs.Ytmljfjmceakahaa
open Go.RowKit
set_option linter.unusedVariables false
set_option linter.unusedSimpArgs false

theorem lfcmp_any (w : World) (B D : Nat) (e : LE) (Ak : Option Addr) (nk ck : Nat) (Av : Option Addr) (nv cv : Nat) (h : Sl w B Ak nk ck e.key) (hB : B ≤ w.heap.size) (A' : Option Addr) (n' c' : Nat) (key : List UInt8) (h' : Sl w D A' n' c' key) (hD : D ≤ w.heap.size) :
    Calls Try.prog 60 #[lVal e Ak nk ck Av nv cv, .slice A' n' c'] w fun r w' => r = .returned (.int .i64 (Lib.compareBytes e.key key)) ∧ Below w.heap.size w w' := by
  have hc := bcmp_any (w.alloc (lObj e Ak nk ck Av nv cv)) B D _ _ _ _ _ _ _ _ (h.below ((Below.refl _ _).alloc hB _)) (h'.below ((Below.refl _ _).alloc hD _))
  go_enter Try.func60, Try.ntmps60
  go_wp2_with fail
  refine hc.mono ?_
  rintro r w1 ⟨rfl, rfl⟩
  go_wp2_with fail
  go_ret
  exact ⟨rfl, (Below.refl _ _).alloc (Nat.le_refl _) _⟩

/-- How entry j's key stands to a key. -/
def lRk (es : List LE) (key : List UInt8) (j : Nat) : Int := match es[j]? with | some e => Lib.compareBytes e.key key | none => 1
def LSP (es : List LE) (key : List UInt8) (n : Nat) (w : World) (e : Ending) (w' : World) : Prop :=
  ∃ (p : Nat) (b : Bool), e = .returned (.tuple #[.int .i64 (p : Int), .bool b]) ∧ p ≤ n ∧ (∀ j, j < p → lRk es key j < 0) ∧ (∀ j, p ≤ j → j < n → 0 ≤ lRk es key j) ∧ (b = true ↔ p < n ∧ lRk es key p = 0) ∧ Below w.heap.size w w'

set_option maxRecDepth 100000 in
set_option maxHeartbeats 1000000 in
theorem lsearch_any (w : World) (B D : Nat) (A : Option Addr) (n c : Nat) (es : List LE) (h : LEnts w B A n es) (hBw : B ≤ w.heap.size) (hn : n ≤ 1000000) (A' : Option Addr) (n' c' : Nat) (key : List UInt8) (h' : Sl w D A' n' c' key) (hD : D ≤ w.heap.size)
    (hmono : ∀ i j, i ≤ j → j < n → lRk es key j < 0 → lRk es key i < 0) :
    Calls Try.prog 59 #[.slice A n c, .slice A' n' c', .func (.func 60) #[] #[]] w (LSP es key n w) := by
  have hcall : ∀ W k, Below w.heap.size w W → k < n → ∃ ad e Ak nk ck Av nv cv, A = some ad ∧ (W.cell? (ad.add (k * 4)) = some (.slice Ak nk ck) ∧ W.cell? ⟨(ad.add (k * 4)).block, (ad.add (k * 4)).off + 1, none⟩ = some (.slice Av nv cv) ∧ W.cell? ⟨(ad.add (k * 4)).block, (ad.add (k * 4)).off + 2, none⟩ = some (.int .i64 e.long) ∧ W.cell? ⟨(ad.add (k * 4)).block, (ad.add (k * 4)).off + 3, none⟩ = some (.int .u32 (e.first : Int))) ∧
      Calls Try.prog 60 #[lVal e Ak nk ck Av nv cv, .slice A' n' c'] W fun r w' => r = .returned (.int .i64 (lRk es key k)) ∧ Below W.heap.size W w' := by
    intro W k hW hk
    obtain ⟨e, ad, Ak, nk, ck, Av, nv, cv, he, ho, hA, hl⟩ := (h.below (hW.mono hBw)).at_ hk
    refine ⟨ad, e, Ak, nk, ck, Av, nv, cv, hA, hl.cells, ?_⟩
    have hr : lRk es key k = Lib.compareBytes e.key key := by simp [lRk, he]
    rw [hr]
    exact lfcmp_any W B D e _ _ _ _ _ _ hl.2.2.2.2.2.1 (Nat.le_trans hBw hW.size) _ _ _ _ (h'.below (hW.mono hD)) (Nat.le_trans hD hW.size)
  clear h h'
  go_enter Try.func59, Try.ntmps59
  go_wp2_with fail
  go_loopw [9, 10] (fun i j wr => ∃ a b : Nat, a ≤ b ∧ b ≤ n ∧ i = .int .i64 (a : Int) ∧ j = .int .i64 (b : Int) ∧ (∀ x, x < a → lRk es key x < 0) ∧ (∀ x, b ≤ x → x < n → 0 ≤ lRk es key x) ∧ Below w.heap.size w wr) (fun i j _ => (intOf j).toNat - (intOf i).toNat)
  case atStart => exact ⟨0, n, Nat.zero_le _, Nat.le_refl _, rfl, rfl, fun x hx => by omega, fun x h1 h2 => by omega, Below.refl _ _⟩
  case round =>
    obtain ⟨a, b, hab, hbn, rfl, rfl, hlo, hhi, hbw⟩ := hrel
    by_cases hlt : a < b
    · obtain ⟨m, hm⟩ : ∃ m, (a + b) / 2 = m := ⟨_, rfl⟩
      have hma : a ≤ m := by omega
      have hmb : m < b := by omega
      obtain ⟨ad, e, Ak, nk, ck, Av, nv, cv, rfl, ⟨b0, b1, b2, b3⟩, hcl⟩ := hcall wr m hbw (by omega)
      obtain ⟨r, hr⟩ : ∃ r, lRk es key m = r := ⟨_, rfl⟩
      rw [hr] at hcl
      have hmn : m < n := by omega
      have hmI : ((a : Int) + (b : Int)) / 2 = (m : Int) := by omega
      have hbs := hbw.size
      by_cases hneg : r < 0
      · have hlo2 : ∀ x, x < m + 1 → lRk es key x < 0 := fun x hx => hmono x m (by omega) hmn (by rw [hr]; exact hneg)
        have hnd : decide (r < 0) = true := decide_eq_true hneg
        clear hr hlo
        go_wp2_with fail
        refine hcl.mono ?_
        rintro e w1 ⟨rfl, hb1⟩
        have hbn' := hbw.trans (hb1.mono hbs)
        clear hcl b0 b1 b2 b3
        go_wp2_with fail
        refine ⟨⟨m + 1, b, by omega, hbn, by go_num, rfl, hlo2, hhi, hbn'⟩, by simp [intOf]; omega⟩
      · have hhi2 : ∀ x, m ≤ x → x < n → 0 ≤ lRk es key x := fun x h1 h2 => by
          rcases Int.lt_or_le (lRk es key x) 0 with h3 | h3
          · have := hmono m x h1 h2 h3
            omega
          · exact h3
        have hnd : decide (r < 0) = false := decide_eq_false hneg
        clear hr hhi
        go_wp2_with fail
        refine hcl.mono ?_
        rintro e w1 ⟨rfl, hb1⟩
        have hbn' := hbw.trans (hb1.mono hbs)
        clear hcl b0 b1 b2 b3
        go_wp2_with fail
        refine ⟨⟨a, m, hma, by omega, rfl, by go_num, hlo, hhi2, hbn'⟩, by simp [intOf]; omega⟩
    · obtain rfl : a = b := by omega
      have hbs := hbw.size
      by_cases han : a < n
      · obtain ⟨ad, e, Ak, nk, ck, Av, nv, cv, rfl, ⟨b0, b1, b2, b3⟩, hcl⟩ := hcall wr a hbw han
        obtain ⟨r, hr⟩ : ∃ r, lRk es key a = r := ⟨_, rfl⟩
        rw [hr] at hcl
        have hpost : ∀ w', Below w.heap.size w w' → LSP es key n w (.returned (.tuple #[.int .i64 (a : Int), .bool (r == 0)])) w' := fun w' hb => ⟨a, r == 0, rfl, hbn, hlo, hhi, by simp [han, hr], hb⟩
        clear hlo hhi hr hmono
        go_wp2_with fail
        refine hcl.mono ?_
        rintro e w1 ⟨rfl, hb1⟩
        have hbn' := hbw.trans (hb1.mono hbs)
        clear hcl b0 b1 b2 b3
        go_wp2_with fail
        go_ret2
        exact hpost _ hbn'
      · have hpost : ∀ w', Below w.heap.size w w' → LSP es key n w (.returned (.tuple #[.int .i64 (a : Int), .bool false])) w' := fun w' hb => ⟨a, false, rfl, hbn, hlo, hhi, by simp [han], hb⟩
        clear hlo hhi hmono
        go_wp2_with fail
        go_ret2
        exact hpost _ hbw

theorem lfind_any (w : World) (B D : Nat) (A : Option Addr) (n c : Nat) (es : List LE) (h : LEnts w B A n es) (hBw : B ≤ w.heap.size) (hn : n ≤ 1000000) (A' : Option Addr) (n' c' : Nat) (key : List UInt8) (h' : Sl w D A' n' c' key) (hD : D ≤ w.heap.size)
    (hmono : ∀ i j, i ≤ j → j < n → lRk es key j < 0 → lRk es key i < 0) :
    Calls Try.prog 39 #[.slice A n c, .slice A' n' c'] w (LSP es key n w) := by
  have hb := lsearch_any w B D A n c es h hBw hn A' n' c' key h' hD hmono
  clear h h' hmono
  go_enter Try.func39, Try.ntmps39
  go_wp2_with fail
  refine hb.mono ?_
  rintro e w1 ⟨p, b, rfl, hp⟩
  have hpost : LSP es key n w (.returned (.tuple #[.int .i64 (p : Int), .bool b])) w1 := ⟨p, b, rfl, hp⟩
  clear hb hp
  go_wp2_with fail
  go_ret2
  exact hpost

end Go.Proofs.Ytmljfjmceakahaa
