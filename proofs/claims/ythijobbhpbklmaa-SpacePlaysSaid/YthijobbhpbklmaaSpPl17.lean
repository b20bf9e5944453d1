/- SPlE -/
import Derived.Test.YthijobbhpbklmaaSpPl15
import Derived.Test.YthijobbhpbklmaaSpPl16
/- SpacePlays: the program's space and the reference's side by side. -/
namespace Go.Proofs.Ythijobbhpbklmaa
open Go.RowKit
set_option linter.unusedVariables false
set_option linter.unusedSimpArgs false

theorem wrow_recs {w : World} {base : Nat} {ok : Nat → Prop} {v : Value} {rs : List FRc} (h : WRow w base ok v rs) : ∃ A c, v = .slice A rs.length c ∧ Recs w w.heap.size A rs.length rs ∧ Caps w A rs.length c rs := by
  obtain ⟨A, c, cs, rfl, h1, _, hr⟩ := h.split
  have hcap : rs.length ≤ c ∧ c ≤ 9223372036854775807 := by
    rcases h1.2 with ⟨e, _⟩ | ⟨g, cap, cur, e, _, _, q1, q2, _⟩
    · injection e with e1 e2 e3
      omega
    · injection e with e1 e2 e3
      simp only [maxLen] at q2
      omega
  have hrd := Reads.of_own h1
  have key : ∀ (i : Nat) (r : FRc), rs[i]? = some r → ∃ (ad : Addr) (Ap : Option Addr) (np cp : Nat), A = some ad ∧ (ad.add (i * 2)).block < w.heap.size ∧ w.cell? (ad.add (i * 2)) = some (.int .u64 (r.1 : Int)) ∧ w.cell? ((ad.add (i * 2)).add 1) = some (.slice Ap np cp) ∧ Reads w w.heap.size 1 Ap np (Pgs r.2) ∧ np ≤ cp ∧ cp ≤ 9223372036854775807 := fun i r hi => by
    obtain ⟨A', n', c', a1, a2, a3, _⟩ := hr.2 i r hi
    have hlt := (List.getElem?_eq_some_iff.1 hi).1
    obtain ⟨ad, rfl, hB, hcell⟩ := hrd.2 (by omega)
    refine ⟨ad, A', n', c', rfl, by rw [block_of_add]; exact hB, hcell _ _ a1, by rw [Go.Deep.add_add]; exact hcell _ _ a2, Reads.of_own a3, ?_⟩
    rcases a3.2 with ⟨e, _⟩ | ⟨g, cap, cur, e, _, _, q1, q2, _⟩
    · injection e with e1 e2 e3
      omega
    · injection e with e1 e2 e3
      simp only [maxLen] at q2
      omega
  refine ⟨A, c, rfl, ⟨rfl, fun i r hi => ?_⟩, hcap, fun i r hi => ?_⟩
  · obtain ⟨ad, Ap, np, cp, e1, e2, e3, e4, e5, e6⟩ := key i r hi
    exact ⟨ad, Ap, np, cp, e1, e2, e3, e4, e5⟩
  · obtain ⟨ad, Ap, np, cp, e1, e2, e3, e4, e5, e6⟩ := key i r hi
    exact ⟨ad, Ap, np, cp, e1, e4, e6⟩
/-- The same records: the program's and the reference's. -/
theorem same_recs (w : World) (base base' : Nat) (ok : Nat → Prop) (v v' : Value) (rs : List FRc) (h : WRow w base ok v rs) (h' : RRow w base' v' rs) (hn : rs.length ≤ 1000000) (hrl : ∀ r ∈ rs, r.2.length ≤ 1000000) :
    Calls Try.prog 50 #[v, v'] w fun e w' => e = .returned (.bool true) ∧ Below w.heap.size w w' := by
  obtain ⟨A, c, rfl, h1, h2⟩ := wrow_recs h
  obtain ⟨A', c', rfl, h3, h4⟩ := h'.recs
  have k1 := C_Rec h1 h2
  have k2 := C_Ref h3 h4
  rw [List.length_map] at k1 k2
  exact same_any w A A' rs.length c c' rs k1 h2.1.1 k2 h4.1.1 (by omega) (fun r hr => by have := hrl r hr; omega)
/-- The program's space is S; the reference's is Sr. -/
structure PlR (w W : World) (b p gs : Nat) (ok : Nat → Prop) (S Sr : Sp) (T : Nat → Nat) (A1 : Option Addr) (c1 : Nat) (A2 : Option Addr) (c2 : Nat) : Prop where
  sp : SpAt W 0 ok p S
  str : W.heap[gs]? = some (.cells #[.slice A1 Sr.fin c1, .slice A2 Sr.fin c2, .int .i64 (Sr.lim : Int)] 77 (0, 0))
  i1 : IR W (fun k => ¬ ok k ∧ k ≠ gs) .i64 (.slice A1 Sr.fin c1) (pwl Sr)
  i2 : IR W (fun k => ¬ ok k ∧ k ≠ gs) .u64 (.slice A2 Sr.fin c2) (ptl Sr.fin T)
  bel : RowKit.Below b w W
  ngs : ¬ ok gs
  bgs : b ≤ gs
  okb : ∀ k, ok k → b ≤ k
  oks : ∀ k, ok k → k < W.heap.size
section
variable {w W W' : World} {b p gs : Nat} {ok : Nat → Prop} {S Sr S' : Sp} {T : Nat → Nat} {A1 : Option Addr} {c1 : Nat} {A2 : Option Addr} {c2 : Nat}
theorem PlR.lt (h : PlR w W b p gs ok S Sr T A1 c1 A2 c2) : gs < W.heap.size := blk_lt h.str
theorem PlR.below (h : PlR w W b p gs ok S Sr T A1 c1 A2 c2) (hb : RowKit.Below W.heap.size W W') : PlR w W' b p gs ok S Sr T A1 c1 A2 c2 :=
  ⟨h.sp.below hb, blk_below h.str hb h.lt, h.i1.below hb, h.i2.below hb, h.bel.trans (hb.mono (by have := h.lt; have := h.bgs; omega)), h.ngs, h.bgs, h.okb, fun k hk => by have := h.oks k hk; have := hb.size; omega⟩
theorem PlR.step (h : PlR w W b p gs ok S Sr T A1 c1 A2 c2) (hs : SpAt W' 0 ok p S') (hf : SFr ok W W') : PlR w W' b p gs ok S' Sr T A1 c1 A2 c2 :=
  ⟨hs, (hf.2.2.2.2 gs h.lt h.ngs).trans h.str, h.i1.keep hf.2.2.2.1 (fun k hk ho => ⟨hf.2.2.2.2 k hk ho.1, ho⟩), h.i2.keep hf.2.2.2.1 (fun k hk ho => ⟨hf.2.2.2.2 k hk ho.1, ho⟩), h.bel.trans (hf.below (by have := h.lt; have := h.bgs; omega) (fun k hk ho => by have := h.okb k ho; omega)), h.ngs, h.bgs, h.okb, fun k hk => by have := h.oks k hk; have := hf.2.2.2.1; omega⟩
theorem PlR.put {Sr' : Sp} {B1 : Option Addr} {d1 : Nat} {B2 : Option Addr} {d2 : Nat} (h : PlR w W b p gs ok S Sr T A1 c1 A2 c2) (hb : RowKit.Below W.heap.size W W') (o : Obj)
    (j1 : IR W' (fun g => (¬ ok g ∧ g ≠ gs) ∨ W.heap.size ≤ g) .i64 (.slice B1 Sr'.fin d1) (pwl Sr')) (j2 : IR W' (fun g => (¬ ok g ∧ g ≠ gs) ∨ W.heap.size ≤ g) .u64 (.slice B2 Sr'.fin d2) (ptl Sr'.fin T)) :
    PlR w ((((W'.alloc o).setCell ⟨gs, 0, none⟩ (.slice B1 Sr'.fin d1)).setCell ⟨gs, 1, none⟩ (.slice B2 Sr'.fin d2)).setCell ⟨gs, 2, none⟩ (.int .i64 (Sr'.lim : Int))) b p gs ok S Sr' T B1 d1 B2 d2 := by
  have h1 := (h.below hb).below ((RowKit.Below.refl W'.heap.size W').alloc (Nat.le_refl _) o)
  have hlt := h.lt
  have hgo : ∀ g, (¬ ok g ∧ g ≠ gs) ∨ W.heap.size ≤ g → ¬ ok g ∧ g ≠ gs := fun g hg => by
    rcases hg with hg | hg
    · exact hg
    · exact ⟨fun ho => by have := h.oks g ho; omega, by omega⟩
  have hk : ∀ g, g ≠ gs → ((((W'.alloc o).setCell ⟨gs, 0, none⟩ (.slice B1 Sr'.fin d1)).setCell ⟨gs, 1, none⟩ (.slice B2 Sr'.fin d2)).setCell ⟨gs, 2, none⟩ (.int .i64 (Sr'.lim : Int))).heap[g]? = (W'.alloc o).heap[g]? := fun g hg => heap_set3 _ hg _ _ _
  refine ⟨h1.sp.move (fun k hk' ho => ⟨hk k (fun e => h.ngs (e ▸ ho)), ho⟩), blk_set3 h1.str _ _ _, (j1.keep (by simp) (fun g hg ho => ⟨?_, hgo g ho⟩)), (j2.keep (by simp) (fun g hg ho => ⟨?_, hgo g ho⟩)), below_set3 h1.bel h.bgs _ _ _, h.ngs, h.bgs, h.okb, fun k hk' => by have := h1.oks k hk'; simpa using this⟩
  · rw [hk g (hgo g ho).2, Below.heap_alloc W' o g hg]
  · rw [hk g (hgo g ho).2, Below.heap_alloc W' o g hg]
theorem PlR.cells (h : PlR w W b p gs ok S Sr T A1 c1 A2 c2) : W.cell? ⟨gs, 0, none⟩ = some (.slice A1 Sr.fin c1) ∧ W.cell? ⟨gs, 1, none⟩ = some (.slice A2 Sr.fin c2) ∧ W.cell? ⟨gs, 2, none⟩ = some (.int .i64 (Sr.lim : Int)) ∧ W.frozen? ⟨gs, 0, none⟩ = false ∧ W.frozen? ⟨gs, 1, none⟩ = false ∧ W.frozen? ⟨gs, 2, none⟩ = false := ⟨blk_cell h.str 0, blk_cell h.str 1, blk_cell h.str 2, blk_frozen h.str 0, blk_frozen h.str 1, blk_frozen h.str 2⟩
end
/-- They are the same. -/
def PlX (w W : World) (b p gs : Nat) (ok : Nat → Prop) (S : Sp) (T : Nat → Nat) : Prop := ∃ A1 c1 A2 c2, PlR w W b p gs ok S S T A1 c1 A2 c2
theorem PlX.below {w W W' : World} {b p gs : Nat} {ok : Nat → Prop} {S : Sp} {T : Nat → Nat} (h : PlX w W b p gs ok S T) (hb : RowKit.Below W.heap.size W W') : PlX w W' b p gs ok S T := by
  obtain ⟨A1, c1, A2, c2, h⟩ := h
  exact ⟨A1, c1, A2, c2, h.below hb⟩
/-- The act's box. -/
def ActB (W : World) (ok : Nat → Prop) (gs ga kd pg : Nat) : Prop := W.heap[ga]? = some (.cells #[.int .u8 (kd : Int), .int .u32 (pg : Int)] 86 (0, 0)) ∧ ¬ ok ga ∧ ga ≠ gs
theorem code_fresh {S : Sp} (hw : S.OK) (q : Nat) : (pcode S q = 3) ↔ q ∈ S.fr := by
  unfold pcode
  constructor
  · intro h
    by_cases n3 : q ∈ S.fr
    · exact n3
    · exfalso
      revert h
      repeat' split
      all_goals first | contradiction | omega
  · intro h
    rw [if_neg (fun hh => hw.uf q hh h), if_neg (hw.fh q h), if_pos h]
end Go.Proofs.Ythijobbhpbklmaa
