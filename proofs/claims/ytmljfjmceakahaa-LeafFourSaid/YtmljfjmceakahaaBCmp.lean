/- bytes.Compare of two byte slices. -/
import Derived.Lib.Bytealg
import Derived.Lib.BytesEntry
import Derived.Test.YtmljfjmceakahaaOctR
namespace Go.Proofs.Ytmljfjmceakahaa
open Go.RowKit
set_option linter.unusedVariables false
set_option linter.unusedSimpArgs false

theorem run_bytesOf_sl {P : Program} {w : World} {B : Nat} {A : Option Addr} {n c : Nat} {l : List UInt8} (h : Sl w B A n c l) : (Extern.Bytes.bytesOf (.slice A n c)).run P w = .ok ⟨l.toArray⟩ w := by
  rcases A with _ | ad
  · have hc := h.nil rfl
    have hn0 : n = 0 := by have := h.cap; omega
    obtain rfl : l = [] := List.eq_nil_of_length_eq_zero (h.len.trans hn0)
    rfl
  · have := Lib.run_loadBytesX (P := P) (w := w) (l.map fun b => (b.toNat : Int)) ad .empty (fun j x hj => by
      rw [List.getElem?_map] at hj
      obtain ⟨b, hb, rfl⟩ := Option.map_eq_some_iff.1 hj
      have hjn : j < n := by rw [← h.len]; exact (List.getElem?_eq_some_iff.1 hb).1
      obtain ⟨ad', b', he, _, hb', hc⟩ := h.get hjn
      cases he
      rw [hb] at hb'
      cases hb'
      exact hc)
    rw [List.length_map, h.len] at this
    refine this.trans ?_
    have hb : Lib.bytesOf (l.map fun b => (b.toNat : Int)) = l := by
      simp only [Lib.bytesOf, List.map_map]
      refine (List.map_congr_left (g := id) fun b _ => ?_).trans (List.map_id l)
      simp
    rw [hb]
    simp

theorem bcmp_any (w : World) (B D : Nat) (A : Option Addr) (n c : Nat) (l : List UInt8) (A' : Option Addr) (n' c' : Nat) (l' : List UInt8) (h : Sl w B A n c l) (h' : Sl w D A' n' c' l') :
    Calls Try.prog 47 #[.slice A n c, .slice A' n' c'] w fun e w' => e = .returned (.int .i64 (Lib.compareBytes l l')) ∧ w' = w := by
  have hx : (callFunc 63 #[.slice A n c, .slice A' n' c']).run Try.prog w = .ok (.value (.int .i64 (Lib.compareBytes l l'))) w := by
    rw [run_callFunc_extern (fn := Try.f63) (by kernel_rfl) (by kernel_rfl) (by kernel_rfl) (by kernel_rfl) (e := Extern.BytealgCompare.compare) (by kernel_rfl)]
    change ((Sem.run Try.prog (do pure (goInt (Extern.BytealgCompare.cmp (← Extern.Bytes.bytesOf (.slice A n c)) (← Extern.Bytes.bytesOf (.slice A' n' c'))))) w).andThen _) = _
    simp only [Sem.run_bind, run_bytesOf_sl h, run_bytesOf_sl h', Sem.run_pure, Result.andThen]
    rw [Lib.cmp_eq]
    rfl
  go_enter Try.func47, Try.ntmps47
  go_wp2_with fail
  go_ret
  exact ⟨rfl, rfl⟩

/-- The order of byte strings. -/
theorem compareBytes_range (a b : List UInt8) : Lib.compareBytes a b = -1 ∨ Lib.compareBytes a b = 0 ∨ Lib.compareBytes a b = 1 := by
  induction a generalizing b with
  | nil => cases b <;> simp [Lib.compareBytes]
  | cons x a ih =>
    cases b with
    | nil => simp [Lib.compareBytes]
    | cons y b =>
      unfold Lib.compareBytes
      split
      · exact .inl rfl
      · split
        · exact .inr (.inr rfl)
        · exact ih b

end Go.Proofs.Ytmljfjmceakahaa
