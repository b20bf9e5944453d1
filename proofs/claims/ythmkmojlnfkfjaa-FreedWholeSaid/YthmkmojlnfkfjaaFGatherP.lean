/- freed.Gather: what is gathered so far. -/
import Derived.Test.YthmkmojlnfkfjaaFRec
namespace Go.Proofs.Ythmkmojlnfkfjaa
open Go.RowKit
set_option linter.unusedVariables false
set_option linter.unusedSimpArgs false

theorem info_rec : (Try.prog.info? 69).map (fun i => (i.zero, i.size, i.bytes)) = some (some (.agg #[.int .u64 0, .slice none 0 0]), 2, 32) := by kernel_rfl
theorem info_page : (Try.prog.info? 38).map (fun i => (i.zero, i.size, i.bytes)) = some (some (.int .u32 0), 1, 4) := by kernel_rfl

theorem own_cur {w : World} {base : Nat} {e : TypeId} {size n c : Nat} {A : Option Addr} {xs : List Value} (h : w.ownsRow base e size (.slice A n c) n xs) (hn : 0 < n) :
    ∃ (gy : Nat) (cur : Array Value), A = some ⟨gy, 0, none⟩ ∧ base ≤ gy ∧ w.heap[gy]? = some (.cells cur e (0, 0)) ∧ ∀ (i : Nat) (x : Value), xs[i]? = some x → cur[i]? = some x := by
  rcases h.2 with ⟨_, h0⟩ | ⟨g, cap, cur, hv, hg, hh, hc, hcm, hsz, htk⟩
  · omega
  · cases hv
    refine ⟨g, cur, rfl, hg, hh, fun i x hx => ?_⟩
    rw [← htk, List.getElem?_take] at hx
    split at hx
    · rw [← Array.getElem?_toList]; exact hx
    · cases hx
theorem GPk.moreb {w : World} {base b b' : Nat} {cs : List Value} {rs : List FRc} (h : GPk w base b cs rs) (hb : b ≤ b') : GPk w base b' cs rs :=
  ⟨h.1, fun i r hi => by
    obtain ⟨Ap, np, cp, h1, h2, h3, h4⟩ := h.2 i r hi
    exact ⟨Ap, np, cp, h1, h2, h3, fun g hg => by have := h4 g hg; omega⟩⟩

/-- The last record is (T, pl), in out's row at gy. -/
structure GMid (w W : World) (K gy co : Nat) (init : List FRc) (T : Nat) (pl : List Nat) (cs0 : List Value) (cur : Array Value) (Al : Option Addr) (nl cl b : Nat) : Prop where
  own : W.ownsRow w.heap.size 69 2 (.slice (some ⟨gy, 0, none⟩) (init.length + 1) co) (init.length + 1) (cs0 ++ [.int .u64 (T : Int), .slice Al nl cl])
  blk : W.heap[gy]? = some (.cells cur 69 (0, 0))
  cur0 : cur[init.length * 2]? = some (.int .u64 (T : Int))
  cur1 : cur[init.length * 2 + 1]? = some (.slice Al nl cl)
  gp : GPk W w.heap.size b cs0 init
  last : W.ownsRow b 38 1 (.slice Al nl cl) nl (Pgs pl)
  wb : w.heap.size ≤ b
  bW : b ≤ W.heap.size
  nlK : nl ≤ K
  base : w.heap.size ≤ gy
theorem GMid.of_own {w W : World} {K co : Nat} {A : Option Addr} {init : List FRc} {T : Nat} {pl : List Nat} {cs0 : List Value} {Al : Option Addr} {nl cl b : Nat}
    (own : W.ownsRow w.heap.size 69 2 (.slice A (init.length + 1) co) (init.length + 1) (cs0 ++ [.int .u64 (T : Int), .slice Al nl cl])) (gp : GPk W w.heap.size b cs0 init)
    (last : W.ownsRow b 38 1 (.slice Al nl cl) nl (Pgs pl)) (wb : w.heap.size ≤ b) (bW : b ≤ W.heap.size) (nlK : nl ≤ K) : ∃ gy cur, A = some ⟨gy, 0, none⟩ ∧ GMid w W K gy co init T pl cs0 cur Al nl cl b := by
  obtain ⟨gy, cur, rfl, hg, hh, hc⟩ := own_cur own (by omega)
  have hl := gp.1
  exact ⟨gy, cur, rfl, own, hh, hc _ _ (by rw [← hl]; simp), hc _ _ (by rw [← hl, List.getElem?_append_right (by omega)]; simp), gp, last, wb, bW, nlK, hg⟩
theorem GMid.below {w W W' : World} {K gy co : Nat} {init : List FRc} {T : Nat} {pl : List Nat} {cs0 : List Value} {cur : Array Value} {Al : Option Addr} {nl cl b : Nat} (h : GMid w W K gy co init T pl cs0 cur Al nl cl b) (hb : Below W.heap.size W W') : GMid w W' K gy co init T pl cs0 cur Al nl cl b :=
  ⟨own_below h.own hb (Nat.le_refl _), blk_below h.blk hb (blk_lt h.blk), h.cur0, h.cur1, h.gp.same fun g C hg hc => hb.block g (blk_lt hc), own_below h.last hb (Nat.le_refl _), h.wb, Nat.le_trans h.bW hb.size, h.nlK, h.base⟩
/-- What is gathered so far. -/
def GSo (w W : World) (K : Nat) (Ao : Option Addr) (no co : Nat) (rs : List FRc) : Prop :=
  (rs = [] ∧ Ao = none ∧ no = 0 ∧ co = 0) ∨ ∃ (init : List FRc) (t : Nat) (pl : List Nat) (gy : Nat) (cs0 : List Value) (cur : Array Value) (Al : Option Addr) (nl cl b : Nat), rs = init ++ [(t, pl)] ∧ Ao = some ⟨gy, 0, none⟩ ∧ no = init.length + 1 ∧ GMid w W K gy co init t pl cs0 cur Al nl cl b
theorem GSo.nil_ (w W : World) (K : Nat) : GSo w W K none 0 0 [] := .inl ⟨rfl, rfl, rfl, rfl⟩
theorem GSo.below {w W W' : World} {K : Nat} {Ao : Option Addr} {no co : Nat} {rs : List FRc} (h : GSo w W K Ao no co rs) (hb : Below W.heap.size W W') : GSo w W' K Ao no co rs := by
  rcases h with h | ⟨init, t, pl, gy, cs0, cur, Al, nl, cl, b, h1, h2, h3, h4⟩
  · exact .inl h
  · exact .inr ⟨init, t, pl, gy, cs0, cur, Al, nl, cl, b, h1, h2, h3, h4.below hb⟩
theorem GSo.len {w W : World} {K : Nat} {Ao : Option Addr} {no co : Nat} {rs : List FRc} (h : GSo w W K Ao no co rs) : rs.length = no := by
  rcases h with ⟨rfl, _, rfl, _⟩ | ⟨init, t, pl, gy, cs0, cur, Al, nl, cl, b, rfl, h2, rfl, h4⟩
  · rfl
  · simp
/-- All of it, as one row. -/
theorem GSo.row {w W : World} {K : Nat} {Ao : Option Addr} {no co : Nat} {rs : List FRc} (h : GSo w W K Ao no co rs) (hw : w.heap.size ≤ W.heap.size) : ∃ cs, W.ownsRow w.heap.size 69 2 (.slice Ao no co) no cs ∧ GPk W w.heap.size W.heap.size cs rs := by
  rcases h with ⟨rfl, rfl, rfl, rfl⟩ | ⟨init, t, pl, gy, cs0, cur, Al, nl, cl, b, rfl, rfl, rfl, hm⟩
  · exact ⟨[], World.ownsRow_nil _ _ _ _, GPk.nil_ _ _ _⟩
  · exact ⟨_, hm.own, hm.gp.snoc hm.last hm.wb hm.bW (Nat.le_refl _)⟩
theorem GSo.recs {w W : World} {K : Nat} {Ao : Option Addr} {no co : Nat} {rs : List FRc} (h : GSo w W K Ao no co rs) (hw : w.heap.size ≤ W.heap.size) : Recs W W.heap.size Ao no rs := by
  obtain ⟨cs, h1, h2⟩ := h.row hw
  exact h2.recs h1
/-- The capacities. -/
def Caps (w : World) (A : Option Addr) (n c : Nat) (rs : List FRc) : Prop := (n ≤ c ∧ c ≤ 9223372036854775807) ∧ ∀ (i : Nat) (r : FRc), rs[i]? = some r → ∃ ad Ap np cp, A = some ad ∧ w.cell? ((ad.add (i * 2)).add 1) = some (.slice Ap np cp) ∧ np ≤ cp ∧ cp ≤ 9223372036854775807
theorem own_cap {w : World} {base : Nat} {e : TypeId} {size n c : Nat} {A : Option Addr} {xs : List Value} (h : w.ownsRow base e size (.slice A n c) n xs) : n ≤ c ∧ c ≤ 9223372036854775807 := by
  rcases h.2 with ⟨hv, h0⟩ | ⟨_, _, _, hv, _, _, hc, hm, _⟩
  · cases hv; omega
  · cases hv; exact ⟨hc, by unfold maxLen at hm; exact hm⟩
theorem GSo.caps {w W : World} {K : Nat} {Ao : Option Addr} {no co : Nat} {rs : List FRc} (h : GSo w W K Ao no co rs) (hw : w.heap.size ≤ W.heap.size) : Caps W Ao no co rs := by
  obtain ⟨cs, h1, h2⟩ := h.row hw
  have hR := Reads.of_own h1
  refine ⟨own_cap h1, fun i r hi => ?_⟩
  have hl := h2.1
  have hl2 := hR.1
  have hlt := (List.getElem?_eq_some_iff.1 hi).1
  obtain ⟨Ap, np, cp, g1, g2, g3, _⟩ := h2.2 i r hi
  obtain ⟨ad, rfl, hb, hc⟩ := hR.2 (by omega)
  exact ⟨ad, Ap, np, cp, rfl, by rw [add_of_add]; exact hc _ _ g2, own_cap g3⟩
/-- A new record was put behind it. -/
theorem gmid_new {w W w5 : World} {K : Nat} {Ao : Option Addr} {no co : Nat} {rs : List FRc} {cs : List Value} {o : Obj} {T : Nat} {v5 : Value} (hl : rs.length = no) (hw : w.heap.size ≤ W.heap.size) (hown : W.ownsRow w.heap.size 69 2 (.slice Ao no co) no cs) (hgp : GPk W w.heap.size W.heap.size cs rs)
    (hg5 : (W.alloc o).grownBy w5 (Value.slice Ao no co).ownBlock) (hown5 : w5.ownsRow w.heap.size 69 2 v5 (no + 1) (cs ++ [.int .u64 (T : Int), .slice none 0 0])) :
    ∃ gy cur Al nl cl b j c5, v5 = .slice (some ⟨gy, 0, none⟩) (j + 1) c5 ∧ rs.length = j ∧ GMid w w5 K gy c5 rs T [] cs cur Al nl cl b ∧ Below w.heap.size W w5 ∧ ∀ (g : Nat) (C : Array Value) (t : TypeId), t ≠ 69 → W.heap[g]? = some (.cells C t (0, 0)) → w5.heap[g]? = some (.cells C t (0, 0)) := by
  subst hl
  obtain ⟨A5, c5, rfl⟩ := own_slice hown5
  have hz := hg5.size
  simp only [World.size_alloc] at hz
  have hoth : ∀ (g : Nat) (C : Array Value) (t : TypeId), t ≠ 69 → W.heap[g]? = some (.cells C t (0, 0)) → w5.heap[g]? = some (.cells C t (0, 0)) := fun g C t ht hc =>
    (hg5.block g (blk_lt (blk_alloc hc o)) (own_ne (hown.alloc o) (blk_alloc hc o) (Ne.symm ht))).trans (blk_alloc hc o)
  have hgp5 : GPk w5 w.heap.size w5.heap.size cs rs := (hgp.same fun g C hg hc => (hoth g C _ (by decide) hc).trans hc.symm).moreb (by omega)
  obtain ⟨gy, cur, rfl, h2⟩ := GMid.of_own (K := K) (pl := []) hown5 hgp5 (World.ownsRow_nil w5 w5.heap.size 38 1) (by omega) (Nat.le_refl _) (Nat.zero_le _)
  exact ⟨gy, cur, none, 0, 0, w5.heap.size, rs.length, c5, rfl, rfl, h2, ((Below.refl w.heap.size W).alloc hw o).grown hg5 (by simp; omega) (fun k hk => own_base hown k hk), hoth⟩
/-- A page was put behind the last record's. -/
theorem gso_store {w W w7 w8 : World} {K gy co : Nat} {init : List FRc} {T : Nat} {pl : List Nat} {cs0 : List Value} {cur : Array Value} {Al : Option Addr} {nl cl b : Nat} (h : GMid w W K gy co init T pl cs0 cur Al nl cl b) {A8 : Option Addr} {c8 x : Nat}
    (hX7 : Below W.heap.size W w7) (hg8 : w7.grownBy w8 (Value.slice Al nl cl).ownBlock) (hl8 : w8.ownsRow b 38 1 (.slice A8 (nl + 1) c8) (nl + 1) (Pgs pl ++ [.int .u32 (x : Int)])) :
    w8.heap[gy]? = some (.cells cur 69 (0, 0)) ∧ GSo w (w8.setCell ⟨gy, init.length * 2 + 1, none⟩ (.slice A8 (nl + 1) c8)) (K + 1) (some ⟨gy, 0, none⟩) (init.length + 1) co (init ++ [(T, pl ++ [x])]) ∧
      Below w.heap.size W (w8.setCell ⟨gy, init.length * 2 + 1, none⟩ (.slice A8 (nl + 1) c8)) := by
  have h7 := h.below hX7
  have hX8 : Below b W w8 := (hX7.mono h.bW).grown hg8 (Nat.le_trans h.bW hX7.size) (fun k hk => own_base h.last k hk)
  have hy8 : w8.heap[gy]? = some (.cells cur 69 (0, 0)) := (hg8.block gy (blk_lt h7.blk) (own_ne h7.last h7.blk (by decide))).trans h7.blk
  have hown8 : w8.ownsRow w.heap.size 69 2 (.slice (some ⟨gy, 0, none⟩) (init.length + 1) co) (init.length + 1) (cs0 ++ [.int .u64 (T : Int), .slice Al nl cl]) := own_same_b h7.own fun g C hg hc => by
    cases hg
    exact hy8.trans h7.blk.symm
  have hst := (hown8.stored (init.length * 2 + 1) (.slice A8 (nl + 1) c8)).1
  have hset : (cs0 ++ [Value.int .u64 (T : Int), Value.slice Al nl cl]).set (init.length * 2 + 1) (.slice A8 (nl + 1) c8) = cs0 ++ [Value.int .u64 (T : Int), Value.slice A8 (nl + 1) c8] := by
    have hl0 := h.gp.1
    rw [List.set_append_right _ _ (by omega), show init.length * 2 + 1 - cs0.length = 1 by omega]
    rfl
  rw [hset] at hst
  have hgp8 : GPk w8 w.heap.size b cs0 init := h.gp.same fun g C hg hc => hX8.block g hg
  have hneA : ∀ (g : Nat) (C : Array Value), w8.heap[g]? = some (.cells C 38 (0, 0)) → g ≠ gy := fun g C hc e => by
    subst e
    rw [hy8] at hc
    cases hc
  have hgpS := hgp8.same (w' := w8.setCell ⟨gy, init.length * 2 + 1, none⟩ (.slice A8 (nl + 1) c8)) fun g C hg hc => Below.heap_setCell _ _ _ g (hneA g C hc)
  have hlS : (w8.setCell ⟨gy, init.length * 2 + 1, none⟩ (.slice A8 (nl + 1) c8)).ownsRow b 38 1 (.slice A8 (nl + 1) c8) (nl + 1) (Pgs (pl ++ [x])) := by
    rw [Pgs_snoc]
    exact own_same_b hl8 fun g C hg hc => Below.heap_setCell _ _ _ g (hneA g C hc)
  have hsz8 : b ≤ (w8.setCell ⟨gy, init.length * 2 + 1, none⟩ (.slice A8 (nl + 1) c8)).heap.size := by have := hX8.size; have := h.bW; simp; omega
  obtain ⟨gy', cur', e, hm⟩ := GMid.of_own (K := K + 1) hst hgpS hlS h.wb hsz8 (by have := h.nlK; omega)
  cases e
  exact ⟨hy8, .inr ⟨init, T, pl ++ [x], _, cs0, cur', A8, nl + 1, c8, b, rfl, rfl, rfl, hm⟩, (hX8.mono h.wb).setCell (p := ⟨gy, init.length * 2 + 1, none⟩) h.base _⟩

end Go.Proofs.Ythmkmojlnfkfjaa
