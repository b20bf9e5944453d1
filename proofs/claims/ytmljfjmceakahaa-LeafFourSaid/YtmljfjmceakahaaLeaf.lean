/- package leaf: entries in memory; Most, Cell, Fill. -/
import Derived.Test.YtmljfjmceakahaaBMisc
namespace Go.Proofs.Ytmljfjmceakahaa
open Go.RowKit
set_option linter.unusedVariables false
set_option linter.unusedSimpArgs false

structure LE where
  key : List UInt8
  val : List UInt8
  long : Int
  first : Nat
/-- What may come in of an entry's numbers. -/
def LE.ok (e : LE) : Prop := e.first < 4294967296 ∧ -9223372036854775808 ≤ e.long ∧ e.long ≤ 9223372036854775807
/-- An entry as it lies at an address below B. -/
def LAt (w : World) (B : Nat) (ad : Addr) (e : LE) (Ak : Option Addr) (nk ck : Nat) (Av : Option Addr) (nv cv : Nat) : Prop :=
  ad.block < B ∧ w.cell? ad = some (.slice Ak nk ck) ∧ w.cell? (ad.add 1) = some (.slice Av nv cv) ∧ w.cell? (ad.add 2) = some (.int .i64 e.long) ∧ w.cell? (ad.add 3) = some (.int .u32 (e.first : Int)) ∧ Sl w B Ak nk ck e.key ∧ Sl w B Av nv cv e.val
theorem LAt.below {w w' : World} {B : Nat} {ad : Addr} {e : LE} {Ak : Option Addr} {nk ck : Nat} {Av : Option Addr} {nv cv : Nat} (h : LAt w B ad e Ak nk ck Av nv cv) (hb : Below B w w') : LAt w' B ad e Ak nk ck Av nv cv := by
  obtain ⟨h0, h1, h2, h3, h4, h5, h6⟩ := h
  have c := fun i => hb.cell (p := ad.add i) (by rw [block_of_add]; exact h0)
  exact ⟨h0, (hb.cell h0).trans h1, (c 1).trans h2, (c 2).trans h3, (c 3).trans h4, h5.below hb, h6.below hb⟩
/-- Entries, as they lie in rows below block B: four cells each. -/
def LEnts (w : World) (B : Nat) (A : Option Addr) (n : Nat) (es : List LE) : Prop :=
  es.length = n ∧ ∀ (i : Nat) (e : LE), es[i]? = some e → e.ok ∧ ∃ ad Ak nk ck Av nv cv, A = some ad ∧ LAt w B (ad.add (i * 4)) e Ak nk ck Av nv cv
theorem LEnts.below {w w' : World} {B : Nat} {A : Option Addr} {n : Nat} {es : List LE} (h : LEnts w B A n es) (hb : Below B w w') : LEnts w' B A n es := by
  refine ⟨h.1, fun i e hi => ?_⟩
  obtain ⟨ho, ad, Ak, nk, ck, Av, nv, cv, hA, hl⟩ := h.2 i e hi
  exact ⟨ho, ad, Ak, nk, ck, Av, nv, cv, hA, hl.below hb⟩
theorem LEnts.more {w : World} {B B' : Nat} {A : Option Addr} {n : Nat} {es : List LE} (h : LEnts w B A n es) (hB : B ≤ B') : LEnts w B' A n es := by
  refine ⟨h.1, fun i e hi => ?_⟩
  obtain ⟨ho, ad, Ak, nk, ck, Av, nv, cv, hA, h0, h1, h2, h3, h4, h5, h6⟩ := h.2 i e hi
  exact ⟨ho, ad, Ak, nk, ck, Av, nv, cv, hA, by omega, h1, h2, h3, h4, h5.more hB, h6.more hB⟩
theorem LEnts.at_ {w : World} {B : Nat} {A : Option Addr} {n : Nat} {es : List LE} (h : LEnts w B A n es) {i : Nat} (hi : i < n) : ∃ e ad Ak nk ck Av nv cv, es[i]? = some e ∧ e.ok ∧ A = some ad ∧ LAt w B (ad.add (i * 4)) e Ak nk ck Av nv cv := by
  obtain ⟨e, he⟩ : ∃ e, es[i]? = some e := ⟨_, List.getElem?_eq_getElem (show i < es.length by rw [h.1]; exact hi)⟩
  obtain ⟨ho, ad, Ak, nk, ck, Av, nv, cv, hA, hl⟩ := h.2 i e he
  exact ⟨e, ad, Ak, nk, ck, Av, nv, cv, he, ho, hA, hl⟩
/-- The cells in the form that a load of the struct asks for. -/
theorem LAt.cells {w : World} {B : Nat} {ad : Addr} {e : LE} {Ak : Option Addr} {nk ck : Nat} {Av : Option Addr} {nv cv : Nat} (h : LAt w B ad e Ak nk ck Av nv cv) :
    w.cell? ad = some (.slice Ak nk ck) ∧ w.cell? ⟨ad.block, ad.off + 1, none⟩ = some (.slice Av nv cv) ∧ w.cell? ⟨ad.block, ad.off + 2, none⟩ = some (.int .i64 e.long) ∧ w.cell? ⟨ad.block, ad.off + 3, none⟩ = some (.int .u32 (e.first : Int)) :=
  ⟨h.2.1, h.2.2.1, h.2.2.2.1, h.2.2.2.2.1⟩

theorem cell4 {w : World} {g : Nat} {t : TypeId} {a b c d : Value} (h : w.heap[g]? = some (.cells #[a, b, c, d] t (0, 0))) :
    w.cell? ⟨g, 0, none⟩ = some a ∧ w.cell? ⟨g, 1, none⟩ = some b ∧ w.cell? ⟨g, 2, none⟩ = some c ∧ w.cell? ⟨g, 3, none⟩ = some d := ⟨blk_cell h 0, blk_cell h 1, blk_cell h 2, blk_cell h 3⟩
abbrev lVal (e : LE) (Ak : Option Addr) (nk ck : Nat) (Av : Option Addr) (nv cv : Nat) : Value := .agg #[.slice Ak nk ck, .slice Av nv cv, .int .i64 e.long, .int .u32 (e.first : Int)]
abbrev lObj (e : LE) (Ak : Option Addr) (nk ck : Nat) (Av : Option Addr) (nv cv : Nat) : Obj := .cells #[.slice Ak nk ck, .slice Av nv cv, .int .i64 e.long, .int .u32 (e.first : Int)] 70
/-- How many bytes an entry's cell has. -/
def lLong (e : LE) : Nat := if 0 < e.first then 10 + e.key.length else 4 + e.key.length + e.val.length
def lFill (es : List LE) : Nat := 4 + (es.map (fun e => 2 + lLong e)).sum
theorem lFill_snoc (es : List LE) (e : LE) : lFill (es ++ [e]) = lFill es + 2 + lLong e := by simp [lFill]; omega
theorem lFill_take {es : List LE} {k : Nat} {e : LE} (h : es[k]? = some e) : lFill (es.take (k + 1)) = lFill (es.take k) + 2 + lLong e := by
  rw [take_succ_some h, lFill_snoc]

theorem most_any (w : World) (S : Int) (h1 : 512 ≤ S) (h2 : S ≤ 4096) :
    Calls Try.prog 41 #[.int .i64 S] w fun e w' => e = .returned (.int .i64 ((S - 4) / 4 - 2)) ∧ w = w' := by
  go_enter Try.func41, Try.ntmps41
  go_wp2
  go_ret
  exact ⟨rfl, rfl⟩

theorem lcell_any (w : World) (e : LE) (Ak : Option Addr) (nk ck : Nat) (Av : Option Addr) (nv cv : Nat) (hk : e.key.length = nk) (hv : e.val.length = nv) (h1 : nk ≤ 1000000) (h2 : nv ≤ 1000000) :
    Calls Try.prog 35 #[lVal e Ak nk ck Av nv cv] w fun r w' => r = .returned (.int .i64 (lLong e : Nat)) ∧ Below w.heap.size w w' := by
  obtain ⟨k, v, l, f⟩ := e
  obtain ⟨L, hL⟩ : ∃ L, lLong ⟨k, v, l, f⟩ = L := ⟨_, rfl⟩
  rw [hL]
  simp only [lVal]
  simp only at hk hv
  by_cases hf : 0 < f
  · have hd : decide ((0 : Int) < (f : Int)) = true := decide_eq_true (by omega)
    have hLe : L = 10 + nk := by rw [← hL, ← hk]; simp [lLong, hf]
    have HL := Lib.hid hLe
    clear hL hk hv hLe
    go_enter Try.func35, Try.ntmps35
    go_wp2
    go_ret
    rw [HL.out]
    exact ⟨by go_num, (Below.refl _ _).alloc (Nat.le_refl _) _⟩
  · have hd : decide ((0 : Int) < (f : Int)) = false := decide_eq_false (by omega)
    have hLe : L = 4 + nk + nv := by rw [← hL, ← hk, ← hv]; simp [lLong, hf]
    have HL := Lib.hid hLe
    clear hL hk hv hLe
    go_enter Try.func35, Try.ntmps35
    go_wp2
    go_ret
    rw [HL.out]
    exact ⟨by go_num, (Below.refl _ _).alloc (Nat.le_refl _) _⟩

end Go.Proofs.Ytmljfjmceakahaa
