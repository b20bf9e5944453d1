/- Layer 8: New, plain. -/
import Derived.Test.YthijobbhpbklmaaSRightS
namespace Go.Proofs.Ythijobbhpbklmaa
open Go.RowKit
set_option linter.unusedVariables false
set_option linter.unusedSimpArgs false

def wOld (o : Nat) (rs : List FRc) : List FRc := rs.filter fun r => decide (r.1 ≤ o)
def wNew (o : Nat) (rs : List FRc) : List FRc := rs.filter fun r => !decide (r.1 ≤ o)
/-- New -/
def sNew (e l o : Nat) (rs : List FRc) : Sp := ⟨e, l, wNew o rs, rpAll (wOld o rs), [], [], rpAll (wNew o rs)⟩
theorem rpAll_mem {rs : List FRc} {p : Nat} : p ∈ rpAll rs ↔ ∃ r ∈ rs, p ∈ r.2 := by simp [rpAll]
theorem sNew_mem {e l o : Nat} {rs : List FRc} {p : Nat} : (p ∈ (sNew e l o rs).us ∨ p ∈ (sNew e l o rs).hd) ↔ p ∈ rpAll rs := by
  show (p ∈ rpAll (wOld o rs) ∨ p ∈ rpAll (wNew o rs)) ↔ _
  rw [rpAll_mem, rpAll_mem, rpAll_mem]
  constructor
  · rintro (⟨r, h1, h2⟩ | ⟨r, h1, h2⟩)
    · exact ⟨r, (List.mem_filter.1 h1).1, h2⟩
    · exact ⟨r, (List.mem_filter.1 h1).1, h2⟩
  · rintro ⟨r, h1, h2⟩
    by_cases h : r.1 ≤ o
    · exact .inl ⟨r, List.mem_filter.2 ⟨h1, by simpa using h⟩, h2⟩
    · exact .inr ⟨r, List.mem_filter.2 ⟨h1, by simpa using h⟩, h2⟩
theorem sNew_old {e l o : Nat} {rs : List FRc} {r : FRc} (h : r.1 ≤ o) : sNew e l o (rs ++ [r]) = { sNew e l o rs with us := (sNew e l o rs).us ++ r.2 } := by
  have h1 : wOld o (rs ++ [r]) = wOld o rs ++ [r] := by simp [wOld, h]
  have h2 : wNew o (rs ++ [r]) = wNew o rs := by simp [wNew, h]
  unfold sNew
  rw [h1, h2, rpAll_snoc]
theorem sNew_new {e l o : Nat} {rs : List FRc} {r : FRc} (h : ¬ r.1 ≤ o) : sNew e l o (rs ++ [r]) = { sNew e l o rs with wait := (sNew e l o rs).wait ++ [r], hd := (sNew e l o rs).hd ++ r.2 } := by
  have h1 : wOld o (rs ++ [r]) = wOld o rs := by simp [wOld, h]
  have h2 : wNew o (rs ++ [r]) = wNew o rs ++ [r] := by simp [wNew, h]
  unfold sNew
  rw [h1, h2, rpAll_snoc]
theorem sNew_nil (e l o : Nat) : sNew e l o [] = ⟨e, l, [], [], [], [], []⟩ := rfl
theorem sNew_nil_ok {e l o : Nat} (h1 : 2 ≤ e) (h2 : e ≤ l) (h3 : l ≤ 65536) : (sNew e l o []).OK :=
  ⟨h1, h2, h3, (by intro p hp; cases hp), (by intro p hp; cases hp), (by intro p hp; cases hp), (by intro p hp; cases hp), (by intro p hp; cases hp), (by intro p hp; cases hp), (by intro p hp; cases hp), (by intro p hp; cases hp), (by intro p hp; cases hp), (by intro p hp; cases hp), List.nodup_nil, List.nodup_nil, List.nodup_nil, List.nodup_nil⟩
/-- One page more that may be used, or is held; nothing is fresh or gone yet. -/
theorem Sp.OK.us1 {S : Sp} (h : S.OK) (hf : S.fr = []) (hg : S.gn = []) {p : Nat} (h1 : 2 ≤ p ∧ p < S.fin) (hn : ¬ (p ∈ S.us ∨ p ∈ S.hd)) : ({ S with us := S.us ++ [p] } : Sp).OK := by
  refine ⟨h.e1, h.e2, h.e3, ?_, h.f1, h.g1, h.h1, ?_, ?_, ?_, h.fg, h.fh, h.gh, ?_, h.fn, h.gd, h.hn⟩
  · intro x hx
    rcases List.mem_append.1 hx with hx | hx
    · exact h.u1 x hx
    · rw [List.mem_singleton.1 hx]; exact h1
  · intro x _ hy; rw [show ({ S with us := S.us ++ [p] } : Sp).fr = [] from hf] at hy; cases hy
  · intro x _ hy; rw [show ({ S with us := S.us ++ [p] } : Sp).gn = [] from hg] at hy; cases hy
  · intro x hx hy
    rcases List.mem_append.1 hx with hx | hx
    · exact h.uh x hx hy
    · rw [List.mem_singleton.1 hx] at hy; exact hn (.inr hy)
  · exact List.nodup_append.2 ⟨h.un, by simp, fun a ha c hc e => by rw [List.mem_singleton.1 hc] at e; exact hn (.inl (e ▸ ha))⟩
theorem Sp.OK.hd1 {S : Sp} (h : S.OK) (hf : S.fr = []) (hg : S.gn = []) {p : Nat} (h1 : 2 ≤ p ∧ p < S.fin) (hn : ¬ (p ∈ S.us ∨ p ∈ S.hd)) : ({ S with hd := S.hd ++ [p] } : Sp).OK := by
  refine ⟨h.e1, h.e2, h.e3, h.u1, h.f1, h.g1, ?_, h.uf, h.ug, ?_, h.fg, ?_, ?_, h.un, h.fn, h.gd, ?_⟩
  · intro x hx
    rcases List.mem_append.1 hx with hx | hx
    · exact h.h1 x hx
    · rw [List.mem_singleton.1 hx]; exact h1
  · intro x hx hy
    rcases List.mem_append.1 hy with hy | hy
    · exact h.uh x hx hy
    · rw [List.mem_singleton.1 hy] at hx; exact hn (.inl hx)
  · intro x hx _; rw [show ({ S with hd := S.hd ++ [p] } : Sp).fr = [] from hf] at hx; cases hx
  · intro x hx _; rw [show ({ S with hd := S.hd ++ [p] } : Sp).gn = [] from hg] at hx; cases hx
  · exact List.nodup_append.2 ⟨h.hn, by simp, fun a ha c hc e => by rw [List.mem_singleton.1 hc] at e; exact hn (.inr (e ▸ ha))⟩
theorem Sp.OK.rewait {S : Sp} (h : S.OK) (ws : List FRc) : ({ S with wait := ws } : Sp).OK :=
  ⟨h.e1, h.e2, h.e3, h.u1, h.f1, h.g1, h.h1, h.uf, h.ug, h.uh, h.fg, h.fh, h.gh, h.un, h.fn, h.gd, h.hn⟩
/-- A set's row in memory: one page more in the map of those that may be used. -/
theorem SAt.us1 {w w' : World} {base p : Nat} {ok : Nat → Prop} {S : Sp} {Wv : Value} {bu bf bg bh q : Nat} (h : SAt w base ok p S Wv bu bf bg bh) (hu : MSet w' bu (S.us ++ [q])) (hg : w.grownBy w' (some bu)) (hok : ({ S with us := S.us ++ [q] } : Sp).OK) : SAt w' base ok p { S with us := S.us ++ [q] } Wv bu bf bg bh := by
  obtain ⟨n1, n2, n3, n4, n5, n6⟩ := h.d1
  exact ⟨h.blk.grown h.su hg, h.bp, h.okp, h.row.grown h.su hg, hu, h.sf.grown_ (Ne.symm n1) hg, h.sg.grown_ (Ne.symm n2) hg, h.sh.grown_ (Ne.symm n3) hg, h.b1, h.o1, h.d1, hok⟩
theorem SAt.hd1 {w w' : World} {base p : Nat} {ok : Nat → Prop} {S : Sp} {Wv : Value} {bu bf bg bh q : Nat} (h : SAt w base ok p S Wv bu bf bg bh) (hu : MSet w' bh (S.hd ++ [q])) (hg : w.grownBy w' (some bh)) (hok : ({ S with hd := S.hd ++ [q] } : Sp).OK) : SAt w' base ok p { S with hd := S.hd ++ [q] } Wv bu bf bg bh := by
  obtain ⟨n1, n2, n3, n4, n5, n6⟩ := h.d1
  exact ⟨h.blk.grown h.sh hg, h.bp, h.okp, h.row.grown h.sh hg, h.su.grown_ n3 hg, h.sf.grown_ n5 hg, h.sg.grown_ n6 hg, hu, h.b1, h.o1, h.d1, hok⟩
end Go.Proofs.Ythijobbhpbklmaa
