/- package branch: entries in memory; Fill, Right. -/
import Derived.Test.YtmljfjmceakahaaOctR
namespace Go.Proofs.Ytmljfjmceakahaa
open Go.RowKit
set_option linter.unusedVariables false
set_option linter.unusedSimpArgs false

/-- Entries, as they lie in rows below block B: two cells each, the key's slice and the child. -/
def Ents (w : World) (B : Nat) (A : Option Addr) (n : Nat) (es : List (List UInt8 × Nat)) : Prop :=
  es.length = n ∧ ∀ (i : Nat) (k : List UInt8) (x : Nat), es[i]? = some (k, x) → x < 4294967296 ∧ ∃ ad Ak nk ck, A = some ad ∧ ad.block < B ∧ w.cell? (ad.add (i * 2)) = some (.slice Ak nk ck) ∧ w.cell? ((ad.add (i * 2)).add 1) = some (.int .u32 (x : Int)) ∧ Sl w B Ak nk ck k
theorem Ents.below {w w' : World} {B : Nat} {A : Option Addr} {n : Nat} {es : List (List UInt8 × Nat)} (h : Ents w B A n es) (hb : Below B w w') : Ents w' B A n es := by
  refine ⟨h.1, fun i k x hi => ?_⟩
  obtain ⟨hx, ad, Ak, nk, ck, he, hB, h1, h2, h3⟩ := h.2 i k x hi
  exact ⟨hx, ad, Ak, nk, ck, he, hB, (hb.cell (p := ad.add (i * 2)) (by rw [block_of_add]; exact hB)).trans h1, (hb.cell (p := (ad.add (i * 2)).add 1) (by rw [block_of_add, block_of_add]; exact hB)).trans h2, h3.below hb⟩
theorem Ents.more {w : World} {B B' : Nat} {A : Option Addr} {n : Nat} {es : List (List UInt8 × Nat)} (h : Ents w B A n es) (hB : B ≤ B') : Ents w B' A n es := by
  refine ⟨h.1, fun i k x hi => ?_⟩
  obtain ⟨hx, ad, Ak, nk, ck, he, hb, h1, h2, h3⟩ := h.2 i k x hi
  exact ⟨hx, ad, Ak, nk, ck, he, by omega, h1, h2, h3.more hB⟩
theorem Ents.at_ {w : World} {B : Nat} {A : Option Addr} {n : Nat} {es : List (List UInt8 × Nat)} (h : Ents w B A n es) {i : Nat} (hi : i < n) : ∃ k x ad Ak nk ck, es[i]? = some (k, x) ∧ x < 4294967296 ∧ A = some ad ∧ ad.block < B ∧
    w.cell? (ad.add (i * 2)) = some (.slice Ak nk ck) ∧ w.cell? ((ad.add (i * 2)).add 1) = some (.int .u32 (x : Int)) ∧ Sl w B Ak nk ck k := by
  obtain ⟨⟨k, x⟩, he⟩ : ∃ e, es[i]? = some e := ⟨_, List.getElem?_eq_getElem (show i < es.length by rw [h.1]; exact hi)⟩
  obtain ⟨hx, ad, Ak, nk, ck, h1, h2, h3, h4, h5⟩ := h.2 i k x he
  exact ⟨k, x, ad, Ak, nk, ck, he, hx, h1, h2, h3, h4, h5⟩

/-- How many bytes entries take. -/
def bFill (es : List (List UInt8 × Nat)) : Nat := 4 + (es.map (fun e => 7 + e.1.length)).sum

theorem bFill_take {es : List (List UInt8 × Nat)} {k : Nat} {ky : List UInt8} {x : Nat} (h : es[k]? = some (ky, x)) : bFill (es.take (k + 1)) = bFill (es.take k) + 7 + ky.length := by
  unfold bFill
  rw [List.take_add_one, h]
  simp
  omega

set_option maxRecDepth 100000 in
theorem bfill_any (w : World) (B : Nat) (A : Option Addr) (n c : Nat) (es : List (List UInt8 × Nat)) (h : Ents w B A n es) (hBw : B ≤ w.heap.size) (hn : n ≤ 1000000) (hk : ∀ e ∈ es, e.1.length ≤ 1000000) :
    Calls Try.prog 21 #[.slice A n c] w fun e w' => e = .returned (.int .i64 (bFill es : Nat)) ∧ Below w.heap.size w w' := by
  go_enter Try.func21, Try.ntmps21
  go_wp2_with fail
  go_loopw [3, 8] (fun f i wr => ∃ k F : Nat, k ≤ n ∧ f = .int .i64 (F : Int) ∧ i = .int .i64 (k : Int) ∧ Hid (F = bFill (es.take k)) ∧ F ≤ 4 + k * 1000007 ∧ Below w.heap.size w wr) (fun _ i _ => n - (intOf i).toNat)
  case atStart => exact ⟨0, 4, Nat.zero_le _, rfl, rfl, Lib.hid (by simp [bFill]), by omega, Below.refl _ _⟩
  case round =>
    obtain ⟨k, F, hkn, rfl, rfl, hF, hFb, hbw⟩ := hrel
    by_cases hlt : k < n
    · obtain ⟨ky, x, ad, Ak, nk, ck, he, hx, rfl, hB, a0, a1, hsl⟩ := (h.at_ hlt)
      have hbs := hbw.size
      have hnk : nk ≤ 1000000 := by rw [← hsl.len]; exact hk _ (List.mem_of_getElem? he)
      have hFk : F + 7 + nk = bFill (es.take (k + 1)) := by
        rw [bFill_take he, ← hF.out, hsl.len]
      have HFk := Lib.hid hFk
      have b0 := (hbw.cell (p := ad.add (k * 2)) (by rw [block_of_add]; omega)).trans a0
      have b1' := (hbw.cell (p := (ad.add (k * 2)).add 1) (by rw [block_of_add, block_of_add]; omega)).trans a1
      have b1 : wr.cell? ⟨(ad.add (k * 2)).block, (ad.add (k * 2)).off + 1, none⟩ = some (.int .u32 x) := b1'
      clear b1'
      clear hFk a0 a1 he
      go_wp2_with fail
      refine ⟨⟨k + 1, F + 7 + nk, hlt, by go_num, by go_num, HFk, by omega, hbw.alloc hbs _⟩, by simp [intOf]; omega⟩
    · obtain rfl : k = n := by omega
      go_wp2_with fail
      go_ret
      have hFF := hF.out
      rw [List.take_of_length_le (by rw [h.1]; exact Nat.le_refl _)] at hFF
      subst hFF
      exact ⟨rfl, hbw⟩

end Go.Proofs.Ytmljfjmceakahaa
