/- rubricatorref04: the model's entries in memory; Find, Long, Fill, Right. -/
import Derived.Test.YtmljfjmceakahaaLAwake
import Derived.Test.YtmljfjmceakahaaRefN
import Derived.Test.YtmljfjmceakahaaStrCmp
namespace Go.Proofs.Ytmljfjmceakahaa
open Go.RowKit
set_option linter.unusedVariables false
set_option linter.unusedSimpArgs false

/-- The model's entry at an address below B. -/
def RAt (w : World) (B : Nat) (ad : Addr) (e : LE) : Prop :=
  ad.block < B ∧ w.cell? ad = some (.string (st e.key)) ∧ w.cell? (ad.add 1) = some (.string (st e.val)) ∧ w.cell? (ad.add 2) = some (.int .i64 e.long) ∧ w.cell? (ad.add 3) = some (.int .u32 (e.first : Int))
theorem RAt.below {w w' : World} {B : Nat} {ad : Addr} {e : LE} (h : RAt w B ad e) (hb : Below B w w') : RAt w' B ad e := by
  obtain ⟨h0, h1, h2, h3, h4⟩ := h
  have c := fun i => hb.cell (p := ad.add i) (by rw [block_of_add]; exact h0)
  exact ⟨h0, (hb.cell h0).trans h1, (c 1).trans h2, (c 2).trans h3, (c 3).trans h4⟩
theorem RAt.cells {w : World} {B : Nat} {ad : Addr} {e : LE} (h : RAt w B ad e) :
    w.cell? ad = some (.string (st e.key)) ∧ w.cell? ⟨ad.block, ad.off + 1, none⟩ = some (.string (st e.val)) ∧ w.cell? ⟨ad.block, ad.off + 2, none⟩ = some (.int .i64 e.long) ∧ w.cell? ⟨ad.block, ad.off + 3, none⟩ = some (.int .u32 (e.first : Int)) :=
  ⟨h.2.1, h.2.2.1, h.2.2.2.1, h.2.2.2.2⟩
/-- The model's entries, as they lie in rows below block B: four cells each. -/
def RLEnts (w : World) (B : Nat) (A : Option Addr) (n : Nat) (es : List LE) : Prop :=
  es.length = n ∧ ∀ (i : Nat) (e : LE), es[i]? = some e → e.ok ∧ ∃ ad, A = some ad ∧ RAt w B (ad.add (i * 4)) e
theorem RLEnts.below {w w' : World} {B : Nat} {A : Option Addr} {n : Nat} {es : List LE} (h : RLEnts w B A n es) (hb : Below B w w') : RLEnts w' B A n es := by
  refine ⟨h.1, fun i e hi => ?_⟩
  obtain ⟨ho, ad, hA, hl⟩ := h.2 i e hi
  exact ⟨ho, ad, hA, hl.below hb⟩
theorem RLEnts.more {w : World} {B B' : Nat} {A : Option Addr} {n : Nat} {es : List LE} (h : RLEnts w B A n es) (hB : B ≤ B') : RLEnts w B' A n es := by
  refine ⟨h.1, fun i e hi => ?_⟩
  obtain ⟨ho, ad, hA, h0, h1⟩ := h.2 i e hi
  exact ⟨ho, ad, hA, by omega, h1⟩
theorem RLEnts.at_ {w : World} {B : Nat} {A : Option Addr} {n : Nat} {es : List LE} (h : RLEnts w B A n es) {i : Nat} (hi : i < n) : ∃ e ad, es[i]? = some e ∧ e.ok ∧ A = some ad ∧ RAt w B (ad.add (i * 4)) e := by
  obtain ⟨e, he⟩ : ∃ e, es[i]? = some e := ⟨_, List.getElem?_eq_getElem (show i < es.length by rw [h.1]; exact hi)⟩
  obtain ⟨ho, ad, hA, hl⟩ := h.2 i e he
  exact ⟨e, ad, he, ho, hA, hl⟩
abbrev rVal (e : LE) (tk tv : ByteArray) : Value := .agg #[.string tk, .string tv, .int .i64 e.long, .int .u32 (e.first : Int)]
abbrev rObj (e : LE) (tk tv : ByteArray) : Obj := .cells #[.string tk, .string tv, .int .i64 e.long, .int .u32 (e.first : Int)] 73

/-- There is a first entry whose key isn't ahead of the key, or the end. -/
theorem first_ex (es : List LE) (key : List UInt8) : ∃ P, P ≤ es.length ∧ (∀ j, j < P → lRk es key j < 0) ∧ (P < es.length → 0 ≤ lRk es key P) := by
  have : ∀ n, n ≤ es.length → (∀ j, j < n → lRk es key j < 0) ∨ ∃ P, P < n ∧ (∀ j, j < P → lRk es key j < 0) ∧ 0 ≤ lRk es key P := by
    intro n
    induction n with
    | zero => intro _; exact .inl (fun j hj => by omega)
    | succ n ih =>
      intro hn
      rcases ih (by omega) with h | ⟨P, h1, h2, h3⟩
      · rcases Int.lt_or_le (lRk es key n) 0 with h4 | h4
        · refine .inl (fun j hj => ?_)
          rcases Nat.lt_or_ge j n with h5 | h5
          · exact h j h5
          · obtain rfl : j = n := by omega
            exact h4
        · exact .inr ⟨n, by omega, h, h4⟩
      · exact .inr ⟨P, by omega, h2, h3⟩
  rcases this es.length (Nat.le_refl _) with h | ⟨P, h1, h2, h3⟩
  · exact ⟨es.length, Nat.le_refl _, h, fun h => by omega⟩
  · exact ⟨P, by omega, h2, fun _ => h3⟩

set_option maxRecDepth 100000 in
theorem rlfind_is (w : World) (B : Nat) (A : Option Addr) (n c : Nat) (es : List LE) (h : RLEnts w B A n es) (hBw : B ≤ w.heap.size) (hn : n ≤ 1000000) (key : List UInt8)
    (P : Nat) (hP : P ≤ n) (h1 : ∀ j, j < P → lRk es key j < 0) (h2 : P < n → 0 ≤ lRk es key P) :
    Calls Try.prog 40 #[.slice A n c, .string (st key)] w fun e w' => e = .returned (.tuple #[.int .i64 (P : Int), .bool (decide (P < n ∧ lRk es key P = 0))]) ∧ Below w.heap.size w w' := by
  obtain ⟨kt, hkt⟩ : ∃ kt, st key = kt := ⟨_, rfl⟩
  rw [hkt]
  have HKT := Lib.hid hkt
  obtain ⟨R, hR⟩ : ∃ R, decide (P < n ∧ lRk es key P = 0) = R := ⟨_, rfl⟩
  rw [hR]
  have HR := Lib.hid hR
  have H1 := Lib.hid h1
  have H2 := Lib.hid h2
  clear hkt hR h1 h2
  go_enter Try.func40, Try.ntmps40
  go_wp2_with fail
  go_loopw [6] (fun i wr => ∃ k d : Nat, k ≤ P ∧ i = .int .i64 (k : Int) ∧ wr = w.drewN d) (fun i _ => n - (intOf i).toNat)
  case atStart => exact ⟨0, 0, Nat.zero_le _, rfl, rfl⟩
  case round =>
    obtain ⟨k, d, hkP, rfl, rfl⟩ := hrel
    by_cases hlt : k < n
    · obtain ⟨e, ad, he, ho, rfl, hl⟩ := h.at_ hlt
      obtain ⟨a0, _, _, _⟩ := hl.cells
      have hrk : lRk es key k = Lib.compareBytes e.key key := by simp [lRk, he]
      have hless : Op.bytesLess (st e.key).toList kt.toList = decide (lRk es key k < 0) := by rw [← HKT.out, st_toList, st_toList, bytesLess_cmp, hrk]
      have hbeq : ((st e.key).toList == kt.toList) = decide (lRk es key k = 0) := by
        rw [← HKT.out, st_toList, st_toList, hrk, Bool.eq_iff_iff, decide_eq_true_eq, cmp_eq0]
        simp
      obtain ⟨ts, hts⟩ : ∃ ts, st e.key = ts := ⟨_, rfl⟩
      rw [hts] at a0 hless hbeq
      by_cases hk : k < P
      · rw [decide_eq_true (H1.out k hk)] at hless
        clear he hrk hts hl hbeq
        go_wp2_with fail
        refine ⟨⟨k + 1, d, hk, by go_num, rfl⟩, by simp [intOf]; omega⟩
      · obtain rfl : k = P := by omega
        have h0 := H2.out hlt
        rw [decide_eq_false (by omega)] at hless
        have hRe : R = decide (lRk es key k = 0) := by
          rw [← HR.out]
          simp [hlt]
        rw [← hRe] at hbeq
        clear he hrk hts hl h0 hRe
        go_wp2_with fail
        go_quiet (fail)
        go_wp2
        go_ret2
        exact ⟨rfl, below_drewN (below_drewN (Below.refl _ _) _) _⟩
    · have hkn : k = n := by omega
      have hPn : P = n := by omega
      have hR0 : R = false := by rw [← HR.out]; simp; omega
      subst hkn hPn hR0
      go_wp2_with fail
      go_ret2
      exact ⟨rfl, below_drewN (Below.refl _ _) _⟩

end Go.Proofs.Ytmljfjmceakahaa
