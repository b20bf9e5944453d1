/- leaf: what a page tells, plain laws; entries in a row of their own. -/
import Derived.Test.YtmljfjmceakahaaLEntry
namespace Go.Proofs.Ytmljfjmceakahaa
open Go.RowKit
set_option linter.unusedVariables false
set_option linter.unusedSimpArgs false

def lStep (l : Bs) (k : Nat) : Option LE :=
  if 4 + 2 * k + 2 ≤ l.length ∧ bAt l k ≤ l.length ∧ cErr (l.drop (bAt l k)) = 0 then some (cEnt (l.drop (bAt l k))) else none
def lScan (l : Bs) : Nat → Option (List LE)
  | 0 => some []
  | k + 1 => (lScan l k).bind fun es => (lStep l k).map fun e => es ++ [e]
theorem lScan_yes {l : Bs} {k : Nat} {es : List LE} {e : LE} (h : lScan l k = some es) (he : lStep l k = some e) : lScan l (k + 1) = some (es ++ [e]) := by simp [lScan, h, he]
theorem lScan_no {l : Bs} {k : Nat} (he : lStep l k = none) : lScan l (k + 1) = none := by
  unfold lScan
  rw [he]
  cases lScan l k <;> rfl
theorem lScan_mono {l : Bs} {k : Nat} : ∀ {d : Nat}, lScan l k = none → lScan l (k + d) = none
  | 0, h => h
  | d + 1, h => by
    have := lScan_mono (d := d) h
    show lScan l (k + d + 1) = none
    unfold lScan
    rw [this]
    rfl
theorem lScan_len {l : Bs} : ∀ {k : Nat} {es : List LE}, lScan l k = some es → es.length = k
  | 0, es, h => by cases h; rfl
  | k + 1, es, h => by
    unfold lScan at h
    rcases h1 : lScan l k with _ | es1
    · rw [h1] at h; cases h
    · rw [h1] at h
      rcases h2 : lStep l k with _ | e
      · rw [h2] at h; cases h
      · rw [h2] at h
        cases h
        simp [lScan_len h1]

/-- What stands in a page. -/
structure LPage (es : List LE) (l : Bs) : Prop where
  right : LRight es (l.length : Int)
  fits : lFill es ≤ l.length
  page : lPut es l.length = l
def LOkL (es : List LE) : Prop := ∀ e ∈ es, e.ok
theorem LPage.count {es : List LE} {l : Bs} (h : LPage es l) : be ((l.drop 2).take 2) = es.length := by
  have h1 := h.right.2.1
  rw [pPut_count (cs := es.map lCell) (kd := 1) (by rw [← lFill_p]; exact h.fits) (by omega) h.page, List.length_map]
theorem LPage.step {es : List LE} {l : Bs} (h : LPage es l) (hes : LOkL es) {k : Nat} {e : LE} (he : es[k]? = some e) : lStep l k = some e := by
  have h1 := h.right.2.1
  have hk := (List.getElem?_eq_some_iff.1 he).1
  obtain ⟨c1, c2, t, c3⟩ := pPut_at (cs := es.map lCell) (kd := 1) (by rw [← lFill_p]; exact h.fits) (by omega) h.page (k := k) (c := lCell e) (by rw [List.getElem?_map, he]; rfl)
  have hok := (h.right.2.2 k hk e he).1
  obtain ⟨d1, d2⟩ := cell_tells e _ h1 hok (hes _ (List.mem_of_getElem? he)) t _ c3
  unfold lStep
  rw [if_pos ⟨c1, c2, d1⟩, d2]
theorem LPage.scan {es : List LE} {l : Bs} (h : LPage es l) (hes : LOkL es) : ∀ k, k ≤ es.length → lScan l k = some (es.take k)
  | 0, _ => by simp [lScan]
  | k + 1, hk => by
    have he : es[k]? = some es[k] := List.getElem?_eq_getElem hk
    rw [lScan_yes (h.scan hes k (by omega)) (h.step hes he), take_succ_some he]
theorem LPage.all {es : List LE} {l : Bs} (h : LPage es l) (hes : LOkL es) : lScan l (be ((l.drop 2).take 2)) = some es := by
  rw [h.count, h.scan hes _ (Nat.le_refl _), List.take_of_length_le (Nat.le_refl _)]
/-- Nothing is a page's bytes. -/
def LNone (l : Bs) : Prop := ∀ es : List LE, LOkL es → ¬ LPage es l
theorem LNone.step {l : Bs} {k : Nat} (h : lStep l k = none) (hk : k < be ((l.drop 2).take 2)) : LNone l := by
  intro es hes hp
  have h1 := hp.all hes
  have h2 := lScan_mono (d := be ((l.drop 2).take 2) - (k + 1)) (lScan_no h)
  rw [show k + 1 + (be ((l.drop 2).take 2) - (k + 1)) = be ((l.drop 2).take 2) by omega, h1] at h2
  cases h2
theorem LNone.end_ {l : Bs} {es : List LE} (h : lScan l (be ((l.drop 2).take 2)) = some es) (hn : ¬ LPage es l) : LNone l := by
  intro es' hes hp
  rw [hp.all hes] at h
  cases h
  exact hn hp
theorem LNone.len {l : Bs} (h : ¬ (512 ≤ l.length ∧ l.length ≤ 4096)) : LNone l := by
  intro es hes hp
  have h1 := hp.right.1
  have h2 := hp.right.2.1
  omega
theorem LPage.uniq {es es' : List LE} {l : Bs} (h : LPage es l) (hes : LOkL es) (h' : LPage es' l) (hes' : LOkL es') : es = es' := by
  have := h.all hes
  rw [h'.all hes'] at this
  cases this
  rfl

/-- Entries as cells, their keys and values in rows of their own from base on. -/
def LPs (w : World) (base : Nat) (cs : List Value) (es : List LE) : Prop :=
  cs.length = es.length * 4 ∧ ∀ (i : Nat) (e : LE), es[i]? = some e → e.ok ∧ ∃ Ak nk ck Av nv cv, cs[i * 4]? = some (.slice Ak nk ck) ∧ cs[i * 4 + 1]? = some (.slice Av nv cv) ∧ cs[i * 4 + 2]? = some (.int .i64 e.long) ∧ cs[i * 4 + 3]? = some (.int .u32 (e.first : Int)) ∧
    w.ownsRow base 5 1 (.slice Ak nk ck) nk (bv e.key) ∧ w.ownsRow base 5 1 (.slice Av nv cv) nv (bv e.val)
theorem LPs.nil_ (w : World) (base : Nat) : LPs w base [] [] := ⟨rfl, by simp⟩
theorem LPs.same {w w' : World} {base : Nat} {cs : List Value} {es : List LE} (h : LPs w base cs es) (hk : ∀ (g : Nat) (C : Array Value), w.heap[g]? = some (.cells C 5 (0, 0)) → w'.heap[g]? = w.heap[g]?) : LPs w' base cs es := by
  refine ⟨h.1, fun i e hi => ?_⟩
  obtain ⟨ho, Ak, nk, ck, Av, nv, cv, h1, h2, h3, h4, h5, h6⟩ := h.2 i e hi
  exact ⟨ho, Ak, nk, ck, Av, nv, cv, h1, h2, h3, h4, own_same h5 hk, own_same h6 hk⟩
theorem LPs.below {w w' : World} {base B : Nat} {cs : List Value} {es : List LE} (h : LPs w base cs es) (hb : Below B w w') (hB : w.heap.size ≤ B) : LPs w' base cs es :=
  h.same fun g C hg => hb.block g (Nat.lt_of_lt_of_le (blk_lt hg) hB)
theorem LPs.at_r {w w' : World} {base g : Nat} {cs : List Value} {es : List LE} {l : List UInt8} {x : Int} (h : LPs w base cs es) (hA : At g w w') (hR : IsR w g l x) : LPs w' base cs es := by
  obtain ⟨A, n', c, hb, _⟩ := hR
  exact h.same fun g' C' hg' => hA.block g' (blk_lt hg') (fun e => by injection e with e; subst e; rw [hb] at hg'; injection hg' with hg'; injection hg' with _ hg'; exact absurd hg' (by decide))
theorem LPs.snoc {w : World} {base : Nat} {cs : List Value} {es : List LE} (h : LPs w base cs es) {e : LE} (ho : e.ok) {Ak : Option Addr} {nk ck : Nat} {Av : Option Addr} {nv cv : Nat} (hk : w.ownsRow base 5 1 (.slice Ak nk ck) nk (bv e.key)) (hv : w.ownsRow base 5 1 (.slice Av nv cv) nv (bv e.val)) :
    LPs w base (cs ++ [.slice Ak nk ck, .slice Av nv cv, .int .i64 e.long, .int .u32 (e.first : Int)]) (es ++ [e]) := by
  refine ⟨by simp [h.1]; omega, fun i e' hi => ?_⟩
  have hl := h.1
  by_cases hlt : i < es.length
  · rw [List.getElem?_append_left hlt] at hi
    obtain ⟨ho', A', n', c', A'', n'', c'', h1, h2, h3, h4, h5, h6⟩ := h.2 i e' hi
    exact ⟨ho', A', n', c', A'', n'', c'', by rw [List.getElem?_append_left (by omega)]; exact h1, by rw [List.getElem?_append_left (by omega)]; exact h2, by rw [List.getElem?_append_left (by omega)]; exact h3, by rw [List.getElem?_append_left (by omega)]; exact h4, h5, h6⟩
  · have hlen := (List.getElem?_eq_some_iff.1 hi).1
    simp at hlen
    obtain rfl : i = es.length := by omega
    simp at hi
    subst hi
    exact ⟨ho, Ak, nk, ck, Av, nv, cv, by rw [← hl]; simp, by rw [← hl, List.getElem?_append_right (by omega)]; simp, by rw [← hl, List.getElem?_append_right (by omega)]; simp, by rw [← hl, List.getElem?_append_right (by omega)]; simp, hk, hv⟩
theorem LPs.ents {w : World} {base b2 : Nat} {e : TypeId} {A : Option Addr} {n c : Nat} {cs : List Value} {es : List LE} (h : LPs w base cs es) (hr : w.ownsRow b2 e 4 (.slice A n c) n cs) : LEnts w w.heap.size A n es := by
  have hR := Reads.of_own hr
  have hl := h.1
  have hl2 := hR.1
  refine ⟨by omega, fun i e hi => ?_⟩
  have hlt := (List.getElem?_eq_some_iff.1 hi).1
  obtain ⟨ho, Ak, nk, ck, Av, nv, cv, h1, h2, h3, h4, h5, h6⟩ := h.2 i e hi
  obtain ⟨ad, rfl, hb, hc⟩ := hR.2 (by omega)
  exact ⟨ho, ad, Ak, nk, ck, Av, nv, cv, rfl, by rw [block_of_add]; exact hb, hc _ _ h1, by rw [add_of_add]; exact hc _ _ h2, by rw [add_of_add]; exact hc _ _ h3, by rw [add_of_add]; exact hc _ _ h4, Sl.of_own h5, Sl.of_own h6⟩

theorem cEnt_sh (m : Bs) (hm : m.length ≤ 4096) : (cEnt m).key.length ≤ 1000000 ∧ (cEnt m).val.length ≤ 1000000 := by
  have h1 : (cKey m).length ≤ 4096 := Nat.le_trans (takeL_le _ _ _) (Nat.le_trans (takeR_le _ _ _) hm)
  have h2 : (cVal m).length ≤ 4096 := Nat.le_trans (takeL_le _ _ _) (Nat.le_trans (takeR_le _ _ _) (Nat.le_trans (takeR_le _ _ _) (Nat.le_trans (takeR_le _ _ _) (Nat.le_trans (takeR_le _ _ _) hm))))
  unfold cEnt
  split
  · exact ⟨by show (cKey m).length ≤ _; omega, by show (cVal m).length ≤ _; omega⟩
  · exact ⟨by show (cKey m).length ≤ _; omega, by simp⟩

end Go.Proofs.Ytmljfjmceakahaa
