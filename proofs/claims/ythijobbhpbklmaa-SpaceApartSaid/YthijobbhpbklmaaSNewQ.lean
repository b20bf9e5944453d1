/- Layer 8: New: one record more that waits, in memory. -/
import Derived.Test.YthijobbhpbklmaaSNewP
namespace Go.Proofs.Ythijobbhpbklmaa
open Go.RowKit
set_option linter.unusedVariables false
set_option linter.unusedSimpArgs false

theorem info_rec : (Try.prog.info? 101).map (fun i => (i.zero, i.size, i.bytes)) = some (some (.agg #[.int .u64 0, .slice none 0 0]), 2, 32) := by kernel_rfl
theorem wait_step {w5 w8 : World} {base p : Nat} {ok : Nat → Prop} {S : Sp} {Wv : Value} {bu bf bg bh : Nat} (h : SAt w5 base ok p S Wv bu bf bg bh) (hfr : ∀ k, w5.heap.size ≤ k → ok k) {r : FRc} {A5 : Option Addr} {n5 c5 : Nat}
    (hp5 : w5.ownsRow base 73 1 (.slice A5 n5 c5) n5 (r.2.map encP)) (hpo : ∀ k, (Value.slice A5 n5 c5).ownBlock = some k → ok k) {cs : List Value} {tmp : Obj}
    (ho : w5.ownsRow base 101 2 Wv S.wait.length cs) (hok : ∀ k, Wv.ownBlock = some k → ok k)
    (hrow : ∀ (i : Nat) (r : Nat × List Nat), S.wait[i]? = some r → ∃ A' n' c', cs[i * 2]? = some (.int .u64 (r.1 : Int)) ∧ cs[i * 2 + 1]? = some (.slice A' n' c') ∧ w5.ownsRow base 73 1 (.slice A' n' c') n' (r.2.map encP) ∧ ∀ k, (Value.slice A' n' c').ownBlock = some k → ok k)
    {v8 : Value} (hown8 : w8.ownsRow base 101 2 v8 (S.wait.length + 1) (cs ++ [.int .u64 (r.1 : Int), .slice A5 n5 c5])) (hg8 : (w5.alloc tmp).grownBy w8 Wv.ownBlock) (hat8 : v8.ownBlock = Wv.ownBlock ∨ v8.ownBlock = some (w5.alloc tmp).heap.size) :
    w8.heap[p]? = w5.heap[p]? ∧ SAt (w8.setCell ⟨p, 2, none⟩ v8) base ok p { S with wait := S.wait ++ [r] } v8 bu bf bg bh ∧ SFr ok w5 (w8.setCell ⟨p, 2, none⟩ v8) := by
  have hst : ∀ (g : Nat) (o : Obj), w5.heap[g]? = some o → (∀ C, o ≠ .cells C 101 (0, 0)) → w8.heap[g]? = w5.heap[g]? := fun g o hg hne => by
    have h1 : (w5.alloc tmp).heap[g]? = w5.heap[g]? := Below.heap_alloc w5 _ g (blk_lt hg)
    refine (hg8.block g (by have := blk_lt hg; simp; omega) (fun e => ?_)).trans h1
    rcases ho.2 with ⟨hv, _⟩ | ⟨g', cap, cur, hv, _, hh, _⟩
    · rw [hv] at e; simp [Value.ownBlock] at e
    · rw [hv] at e
      have e : g = g' := by simpa [Value.ownBlock] using e
      subst e
      rw [hh] at hg
      injection hg with hg
      exact hne _ hg.symm
  have hst2 : ∀ (g : Nat) (C : Array Value) (t : TypeId), t ≠ 101 → w5.heap[g]? = some (.cells C t (0, 0)) → w8.heap[g]? = w5.heap[g]? := fun g C t ht hg => hst g _ hg (fun C' e => by injection e with _ e; exact ht e)
  have hp8 := hst2 p _ _ (by decide) h.blk
  have hbl8 : SBlk w8 p S.fin S.lim Wv bu bf bg bh := hp8.trans h.blk
  have hmap : ∀ {b : Nat} {T : List Nat}, MSet w5 b T → MSet (w8.setCell ⟨p, 2, none⟩ v8) b T := fun {b T} hm => by
    refine hm.block ((Below.heap_setCell _ _ _ _ (fun e => ?_)).trans ?_)
    · exact hm.ne h.blk e.symm
    · obtain ⟨_, n, D, ⟨es, clock, hb, _⟩, _⟩ := hm
      exact hst b _ hb (fun C e => by cases e)
  have hne8 : ∀ (g : Nat) (C : Array Value) (t : TypeId), t ≠ 143 → w8.heap[g]? = some (.cells C t (0, 0)) → (w8.setCell ⟨p, 2, none⟩ v8).heap[g]? = w8.heap[g]? := fun g C t ht hg => Below.heap_setCell _ _ _ _ (fun e => by
    have e : g = p := e
    subst e
    unfold SBlk at hbl8
    rw [hg] at hbl8
    injection hbl8 with hbl8
    injection hbl8 with _ hbl8
    exact ht hbl8)
  have hpg : ∀ {A : Option Addr} {n c : Nat} {l : List Nat}, w5.ownsRow base 73 1 (.slice A n c) n (l.map encP) → (w8.setCell ⟨p, 2, none⟩ v8).ownsRow base 73 1 (.slice A n c) n (l.map encP) := fun {A n c l} hx =>
    own_move_ hx (fun g C _ hC => (hne8 g C _ (by decide) ((hst2 g C _ (by decide) hC).trans hC)).trans (hst2 g C _ (by decide) hC))
  have hWR : WRow (w8.setCell ⟨p, 2, none⟩ v8) base ok v8 (S.wait ++ [r]) := by
    obtain ⟨A8, c8, rfl⟩ := own_slice hown8
    have hown9 := own_move_ hown8 (w' := w8.setCell ⟨p, 2, none⟩ (.slice A8 (S.wait.length + 1) c8)) (fun g C _ hC => hne8 g C _ (by decide) hC)
    refine ⟨A8, c8, _, by simp, by simpa using hown9, fun k hk => ?_, fun i r' hi => ?_⟩
    · rcases hat8 with e | e
      · exact hok k (e ▸ hk)
      · rw [e] at hk
        injection hk with hk
        exact hfr k (by subst hk; simp)
    · have hcl : cs.length = S.wait.length * 2 := ho.1
      by_cases hlt : i < S.wait.length
      · rw [List.getElem?_append_left hlt] at hi
        obtain ⟨A', n', c', h1, h2, h3, h4⟩ := hrow i r' hi
        exact ⟨A', n', c', by rw [List.getElem?_append_left (by omega)]; exact h1, by rw [List.getElem?_append_left (by omega)]; exact h2, hpg h3, h4⟩
      · have hl := (List.getElem?_eq_some_iff.1 hi).1
        simp at hl
        obtain rfl : i = S.wait.length := by omega
        simp at hi
        subst hi
        exact ⟨A5, n5, c5, by rw [List.getElem?_append_right (by omega), hcl, Nat.sub_self]; rfl, by rw [List.getElem?_append_right (by omega), hcl, show S.wait.length * 2 + 1 - S.wait.length * 2 = 1 by omega]; rfl, hpg hp5, hpo⟩
  refine ⟨hp8, ⟨hbl8.set2 v8, h.bp, h.okp, hWR, hmap h.su, hmap h.sf, hmap h.sg, hmap h.sh, h.b1, h.o1, h.d1, h.wf.rewait _⟩, ?_⟩
  have hs8 := hg8.size
  refine ⟨by show w8.os = _; exact hg8.os, hg8.tape, hg8.output, ?_, fun k hk hno => ?_⟩
  · simp only [World.setCell] at *
    simp at hs8 ⊢
    omega
  · refine (Below.heap_setCell _ _ _ _ (fun e => hno (by have e : k = p := e; rw [e]; exact h.okp))).trans ((hg8.block k (by simp; omega) (fun e => hno (hok k e.symm))).trans (Below.heap_alloc w5 _ k hk))
end Go.Proofs.Ythijobbhpbklmaa
