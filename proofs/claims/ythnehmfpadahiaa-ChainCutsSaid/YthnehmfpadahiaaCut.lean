/- chain.Cut: bytes cut into pieces of their own. -/
import Derived.Test.YthnehmfpadahiaaChunk
import Derived.Test.YthnehmfpadahiaaChain
import Derived.Maps.AppendAt
namespace Go.Proofs.Ythnehmfpadahiaa
open Go.RowKit Go.Shelf
set_option linter.unusedVariables false
set_option linter.unusedSimpArgs false
attribute [local go_sem] Oper.semAt_some
attribute [-go_sem] Builtin.append_

theorem info_sl : (Try.prog.info? 22).map (fun i => (i.zero, i.size, i.bytes)) = some (some (.slice none 0 0), 1, 24) := by kernel_rfl

theorem chunk_any (w : World) (A : Option Addr) (N c m : Nat) (hm : 1 ≤ m) :
    Calls Try.prog 44 #[.slice A N c, .int .i64 (m : Int)] w fun e w' => e = .returned (.func (.func 54) #[] #[.pointer (some ⟨w.heap.size, 0, none⟩), .pointer (some ⟨w.heap.size + 1, 0, none⟩)]) ∧ w' = (w.alloc (.cells #[.slice A N c] 22)).alloc (.cells #[.int .i64 (m : Int)] 3) := by
  have d1 : decide ((m : Int) < 1) = false := decide_eq_false (by omega)
  go_enter Try.func44, Try.ntmps44
  go_wp2
  go_ret
  exact ⟨rfl, rfl⟩

theorem chunk_stops (F : Fence) (n : Nat) (h54 : F.fn 54) (hro : F.round = none) (hn : 1 ≤ n) (Bs Bn n1 bo : Nat) (A : Option Addr) (N c m : Nat) (hN : N ≤ 140737488355328) (hm1 : 1 ≤ m) (hm2 : m ≤ 4096) (hNc : N ≤ c)
    (hs1 : Bs < n1) (hs2 : Bs ≠ bo) (hn1 : Bn < n1) (hn2 : Bn ≠ bo) (w : World) (hnw : n1 ≤ w.heap.size) (hBs : w.cell? ⟨Bs, 0, none⟩ = some (.slice A N c)) (hBn : w.cell? ⟨Bn, 0, none⟩ = some (.int .i64 (m : Int))) :
    SeqStopsK F n Try.prog 54 #[.pointer (some ⟨Bs, 0, none⟩), .pointer (some ⟨Bn, 0, none⟩)] (fun k : Nat => #[chV A N m k]) (KB n1 bo) (fun ys => ys = List.range (chK N m)) (fun pre => ∃ k, k ≤ chK N m ∧ pre = List.range k) (chK N m) w :=
  fun l J Jx W hW hJ _ hY h0 =>
    chunk1_in F n h54 hro hn l Bs Bn n1 bo A N c m hN hm1 hm2 hNc hs1 hs2 hn1 hn2 J Jx hY (fun s X Y h hg => hJ s X Y none h hg (fun r e => by cases e)) W
      ((hW.cell (p := ⟨Bs, 0, none⟩) (by show Bs < _; omega)).trans hBs) ((hW.cell (p := ⟨Bn, 0, none⟩) (by show Bn < _; omega)).trans hBn) h0

/-- Pieces in rows of their own, from base on: what lies in the collecting slice. -/
def Pieces (w : World) (base : Nat) (cs : List Value) (ps : List (List UInt8)) : Prop :=
  cs.length = ps.length ∧ ∀ (i : Nat) (x : Value), cs[i]? = some x → ∃ A n c p, x = .slice A n c ∧ ps[i]? = some p ∧ w.ownsRow base 5 1 (.slice A n c) n (bv p)
theorem Pieces.nil_ (w : World) (base : Nat) : Pieces w base [] [] := ⟨rfl, by simp⟩
theorem Pieces.kept {w w' : World} {base : Nat} {cs : List Value} {ps : List (List UInt8)} {row : Option Nat} (h : Pieces w base cs ps) (hg : w.grownBy w' row)
    (hr : ∀ r, row = some r → ∀ C fr, w.heap[r]? ≠ some (.cells C 5 fr)) : Pieces w' base cs ps := by
  refine ⟨h.1, fun i x hx => ?_⟩
  obtain ⟨A, n, c, p, he, hp, ho⟩ := h.2 i x hx
  refine ⟨A, n, c, p, he, hp, ho.kept hg ?_⟩
  rcases ho.2 with ⟨hv, _⟩ | ⟨g, cap, cur, hv, _, hh, _⟩
  · exact .inl (by rw [hv]; rfl)
  · refine .inr fun e => ?_
    rw [hv] at e
    exact hr g e.symm _ _ hh
theorem own_lower {w : World} {base b' : Nat} {e : TypeId} {size n : Nat} {v : Value} {xs : List Value} (h : w.ownsRow base e size v n xs) (hb : b' ≤ base) : w.ownsRow b' e size v n xs := by
  refine ⟨h.1, ?_⟩
  rcases h.2 with h | ⟨g, cap, cur, hv, hgb, hh⟩
  · exact .inl h
  · exact .inr ⟨g, cap, cur, hv, Nat.le_trans hb hgb, hh⟩
theorem Pieces.below {w w' : World} {base : Nat} {cs : List Value} {ps : List (List UInt8)} (h : Pieces w base cs ps) (hb : Below w.heap.size w w') : Pieces w' base cs ps := by
  refine ⟨h.1, fun i x hx => ?_⟩
  obtain ⟨A, n, c, p, he, hp, ho⟩ := h.2 i x hx
  exact ⟨A, n, c, p, he, hp, own_below ho hb (Nat.le_refl _)⟩
theorem Pieces.lower {w : World} {base b' : Nat} {cs : List Value} {ps : List (List UInt8)} (h : Pieces w base cs ps) (hb : b' ≤ base) : Pieces w b' cs ps := by
  refine ⟨h.1, fun i x hx => ?_⟩
  obtain ⟨A, n, c, p, he, hp, ho⟩ := h.2 i x hx
  exact ⟨A, n, c, p, he, hp, own_lower ho hb⟩
theorem Pieces.snoc {w : World} {base : Nat} {cs : List Value} {ps : List (List UInt8)} (h : Pieces w base cs ps) {A : Option Addr} {n c : Nat} {p : List UInt8} (ho : w.ownsRow base 5 1 (.slice A n c) n (bv p)) : Pieces w base (cs ++ [.slice A n c]) (ps ++ [p]) := by
  refine ⟨by simp [h.1], fun i x hx => ?_⟩
  by_cases hi : i < cs.length
  · rw [List.getElem?_append_left hi] at hx
    obtain ⟨A', n', c', p', he, hp, ho'⟩ := h.2 i x hx
    exact ⟨A', n', c', p', he, by rw [List.getElem?_append_left (by rw [← h.1]; exact hi)]; exact hp, ho'⟩
  · have hlen := (List.getElem?_eq_some_iff.1 hx).1
    simp at hlen
    obtain rfl : i = cs.length := by omega
    simp at hx
    exact ⟨A, n, c, p, hx.symm, by rw [h.1]; simp, ho⟩
theorem Pieces.one {w : World} {base : Nat} {cs : List Value} {ps : List (List UInt8)} (h : Pieces w base cs ps) : ∀ u ∈ cs, u.oneCell' = true := by
  intro u hu
  obtain ⟨i, hi, rfl⟩ := List.getElem_of_mem hu
  obtain ⟨A, n, c, p, he, _⟩ := h.2 i _ (List.getElem?_eq_getElem hi)
  rw [he]
  rfl

theorem alloc_cell0 (w : World) (v : Value) (t : TypeId) : (w.alloc (.cells #[v] t)).cell? ⟨w.heap.size, 0, none⟩ = some v := (Boxed.new w t v).cell
theorem append_piece (w : World) (base : Nat) (v : Value) (k : Nat) (cs : List Value) (h : w.ownsRow base 22 1 v k cs) (A : Option Addr) (n c B : Nat) (hk : k ≤ 1099511627776) (hb : base ≤ w.heap.size)
    (hB : w.cell? ⟨B, 0, none⟩ = some (.slice A n c)) (hB2 : B < w.heap.size) : ∃ v' w', (Builtin.append_ #[41, 41] 41 #[v, .slice (some ⟨B, 0, none⟩) 1 1]).run Try.prog w = .ok v' w' ∧
      w'.ownsRow base 22 1 v' (k + 1) (cs ++ [.slice A n c]) ∧ w.grownBy w' v.ownBlock ∧ (v'.ownBlock = v.ownBlock ∨ v'.ownBlock = some w.heap.size) := by
  obtain ⟨is, si0, sz0, sz1, sz2⟩ := info_parts info_sl
  exact run_append_any (P := Try.prog) w base 41 41 22 is _ 1 24 Try.underlying41 si0 sz0 sz1 sz2 rfl (by omega) v k cs h w.heap.size (some ⟨B, 0, none⟩) 1 1 [.slice A n c]
    ⟨rfl, fun _ => ⟨_, rfl, hB2, fun j u hu => by cases j with | zero => simp at hu; subst hu; exact hB | succ j => simp at hu⟩⟩ (by simp [Value.oneCell']) (by unfold maxLen; omega) (by omega) hb

theorem pieces_own (n1 B : Nat) (l : List UInt8) (m : Nat) : Own (fun (pre : List Nat) W => ∃ v cs, Boxed W B 41 v ∧ W.ownsRow n1 22 1 v pre.length cs ∧ Pieces W n1 cs (pre.map (chL l m))) := by
  rintro s X Y row ⟨v, cs, hv, hr, hp⟩ hg hrow
  have hno : ∀ (g : Nat) C t fr, X.heap[g]? = some (.cells C t fr) → row ≠ some g := by
    intro g C t fr h e
    obtain ⟨o, ho, hc⟩ := hrow g e
    rw [h] at ho
    cases ho
    cases hc
  refine ⟨v, cs, hv.kept hg (fun e => hno _ _ _ _ hv e.symm), hr.kept hg ?_, hp.kept hg (fun r e C fr h => hno r _ _ _ h e)⟩
  rcases hr.2 with ⟨rfl, _⟩ | ⟨g, cap, cur, rfl, _, hgb, _⟩
  · exact .inl rfl
  · exact .inr fun e => hno g _ _ _ hgb e.symm

set_option maxRecDepth 100000 in
set_option maxHeartbeats 4000000 in
theorem cut_ok (w : World) (A : Option Addr) (N c : Nat) (l : List UInt8) (size : Nat) (h : Sl w w.heap.size A N c l) (hN : N ≤ 1099511627776) (h1 : 512 ≤ size) (h2 : size ≤ 4096) :
    Calls Try.prog 20 #[.slice A N c, .int .i64 (size : Int)] w fun e w' => ∃ Av nv cv cs, e = .returned (.slice Av nv cv) ∧ Hid (nv = chK N (size - 8)) ∧ w'.ownsRow w.heap.size 22 1 (.slice Av nv cv) nv cs ∧
      Pieces w' w.heap.size cs ((List.range (chK N (size - 8))).map (chL l (size - 8))) ∧ Below w.heap.size w w' := by
  obtain ⟨ii, hi0, hz0, hz1, hz2⟩ := info_parts info_u8
  obtain ⟨is, si0, sz0, sz1, sz2⟩ := info_parts info_sl
  obtain ⟨m, hm⟩ : ∃ m, size - 8 = m := ⟨_, rfl⟩
  have hmi : (size : Int) - 8 = (m : Int) := by omega
  have hm1 : 1 ≤ m := by omega
  have hm2 : m ≤ 4096 := by omega
  rw [hm]
  have hNc := h.cap
  have hmx : Try.prog.follows .mixedOrders = true := by kernel_rfl
  refine (callsIn_wide (n := 4)).1 ?_
  refine callsIn_of_wp_marks Try.func20 rfl trivial ?_ rfl
  simp only [Try.ntmps20, List.size_toArray, List.length_cons, List.length_nil, Nat.reduceAdd, Nat.reduceSub, Array.replicate_succ, Array.replicate_zero, List.push_toArray, List.append_toArray, List.nil_append, List.cons_append]
  gi_wp2_with (first | (refine ⟨trivial, ?_⟩; gi_at_call 41; refine (callsIn_wide.2 (cmay_yes _ (by omega) (by omega) _)).mono ?_; rintro e w' ⟨rfl, rfl⟩) | (refine ⟨trivial, ?_⟩; gi_at_call 44; refine (callsIn_wide.2 (chunk_any _ _ _ _ m hm1)).mono ?_; rintro e w' ⟨rfl, rfl⟩))
  have hb3 : Below w.heap.size w (((w.alloc (.cells #[.slice none 0 0] 41)).alloc (.cells #[.slice A N c] 22)).alloc (.cells #[.int .i64 (m : Int)] 3)) := (((Below.refl _ w).alloc (Nat.le_refl _) _).alloc (by simp) _).alloc (by simp; omega) _
  refine wpIn_rangeFunc_ownG rfl (by omega) (gf := 54) (lb := #[.pointer (some ⟨w.heap.size + 1, 0, none⟩), .pointer (some ⟨w.heap.size + 1 + 1, 0, none⟩)]) rfl trivial (enters_of Try.func54 (by kernel_rfl) rfl)
    (chunk_stops Fence.wide _ trivial rfl (by omega) (w.heap.size + 1) (w.heap.size + 1 + 1) (w.heap.size + 1 + 1 + 1) w.heap.size A N c m (by omega) hm1 hm2 hNc (by omega) (by omega) (by omega) (by omega) _ (by simp) (by go_simp) (by go_simp))
    (fun h k => h.trans k) (fun W l o o' hl h1 h2 h3 => KB.put (by simp) W l o o' hl h1 h2 h3) (Below.refl _ _) (fun _ => rfl)
    (fun pre W => (∃ v cs, Boxed W w.heap.size 41 v ∧ W.ownsRow (w.heap.size + 1 + 1 + 1) 22 1 v pre.length cs ∧ Pieces W (w.heap.size + 1 + 1 + 1) cs (pre.map (chL l m))) ∧ Below w.heap.size (((w.alloc (.cells #[.slice none 0 0] 41)).alloc (.cells #[.slice A N c] 22)).alloc (.cells #[.int .i64 (m : Int)] 3)) W)
    (fun _ _ _ => False) ?own (fun _ _ _ _ _ h _ _ => h) ?start (fun k => { tmps := #[.slice A N c, .int .i64 (size : Int), undef, undef, .slice none 0 0, .pointer (some ⟨w.heap.size, 0, none⟩), (.slice (chA A m k) (chE N m k) (chE N m k)), .int .i64 (size : Int), .bool true, .bool false, .slice A N c, .int .i64 (size : Int), .int .i64 (m : Int), .func (.func 54) #[] #[.pointer (some ⟨w.heap.size + 1, 0, none⟩), .pointer (some ⟨w.heap.size + 1 + 1, 0, none⟩)], (.slice (chA A m k) (chE N m k) (chE N m k)), undef, undef, undef, undef, undef, undef], defers := [] }) ?assign ?body ?done ?stop
  case own => exact OwnFrom.and (Own.from (pieces_own _ _ _ _) _) (ownFrom_below hb3.size hb3.size)
  case start => exact ⟨⟨.slice none 0 0, [], ((Boxed.new _ _ _).alloc _).alloc _, World.ownsRow_nil _ _ _ _, Pieces.nil_ _ _⟩, Below.refl _ _⟩
  case assign =>
    intro l1 x W K hK
    gi_wp2
    exact hK
  case body =>
    rintro l1 pre x W ⟨⟨v, cs, hbox, hown, hpc⟩, hbel⟩ hlt
    have hb := hbox.cell
    have hbd : W.drew.cell? ⟨w.heap.size, 0, none⟩ = some v := hb
    have hsl := (((h.piece m x).below hb3).below hbel).below (Below.refl _ _).drew
    have hE : chE N m x ≤ 4096 := by unfold chE; omega
    have hBW : w.heap.size < W.heap.size := hbox.lt
    have hB3 : w.heap.size + 1 + 1 + 1 ≤ W.heap.size := by have := hbel.size; simp at this; omega
    have hpl : pre.length < N := Nat.lt_of_le_of_lt (Nat.le_mul_of_pos_right _ hm1) ((chK_iff N m _ hm1).1 hlt)
    gi_wp2
    gi_region_with_o (refine ⟨trivial, ?_⟩; gi_at_call 45; refine (CallsIn.inRound l1 (callsIn_wide.2 (clone_any _ w.heap.size _ _ _ (chL l m x) hsl (by omega)))).mono ?_; rintro e w' ⟨v1, rfl, hown1, hbel1⟩; obtain ⟨A1, c1, rfl⟩ := own_slice hown1; have hb1 : w'.cell? ⟨w.heap.size, 0, none⟩ = some v := (World.cell?_of_block (hbel1.block _ hBW)).trans hbd; have hb2 : ∀ o, (w'.alloc o).cell? ⟨w.heap.size, 0, none⟩ = some v := (fun o => (World.cell?_of_block (Below.heap_alloc _ o _ (by have := hbel1.size; simp at this ⊢; omega))).trans hb1); have hs1 := hbel1.size; obtain ⟨v2, w2, hrun, hown2, hg2, hbk2⟩ := append_piece (w'.alloc (.cells #[.slice A1 (chE N m x) c1] 22)) _ v _ cs ((own_below hown.drew hbel1 (Nat.le_refl _)).alloc _) A1 (chE N m x) c1 w'.heap.size (by omega) (by simp at hs1 ⊢; omega) (alloc_cell0 _ _ _) (by simp); obtain ⟨A2, c2, rfl⟩ := own_slice hown2; have hbx1 : Boxed w' w.heap.size 41 v := (hbel1.block _ hBW).trans hbox; have hbx2 : Boxed w2 w.heap.size 41 v := (hbx1.alloc _).kept hg2 (hbox.not_row (by decide) hown); have hc2 := hbx2.cell; have hf2 := hbx2.frozen)
    all_goals (
      gi_wp2
      have hs2 := hg2.size
      simp only [World.size_alloc] at hs2
      have hs1 : W.heap.size ≤ w'.heap.size := hs1
      have hmid : ∀ k, k < W.heap.size → k ≠ w.heap.size → some k ≠ v.ownBlock → (w2.setCell ⟨w.heap.size, 0, none⟩ (.slice A2 (pre.length + 1) c2)).heap[k]? = W.heap[k]? := fun k hk hkB hkv =>
        (Below.heap_setCell _ _ _ k (fun e => hkB e)).trans ((hg2.block k (by simp; omega) hkv).trans ((Below.heap_alloc _ _ k (by omega)).trans (hbel1.block k hk)))
      have hvb : ∀ k, v.ownBlock = some k → w.heap.size + 1 + 1 + 1 ≤ k ∧ ∃ C fr, W.heap[k]? = some (.cells C 22 fr) := by
        intro k hk
        rcases hown.2 with ⟨rfl, _⟩ | ⟨g, cap, cur, rfl, hgb, hgc, _⟩
        · cases hk
        · cases hk
          exact ⟨hgb, _, _, hgc⟩
      have hb4 : Below w.heap.size W (w2.setCell ⟨w.heap.size, 0, none⟩ (.slice A2 (pre.length + 1) c2)) :=
        ((((((Below.refl w.heap.size W).drew).trans (hbel1.mono (show w.heap.size ≤ W.heap.size by omega))).alloc (by omega) _).grown hg2 (by simp; omega) (fun k hk => by have := (hvb k hk).1; omega))).setCell (Nat.le_refl _) _
      refine ⟨KeepsOthers.from ⟨hb4.size, fun k o hk ho => ?_⟩ _, ⟨hb4.size, fun k hk hkB => hmid k (by omega) hkB (fun e => ?_)⟩, ⟨_, cs ++ [.slice A1 (chE N m x) c1], hbx2.set _, ?_, ?_⟩, hbel.trans hb4⟩
      · refine (hmid k (blk_lt hk) (fun e => ?_) (fun e => ?_)).trans hk
        · subst e
          rw [show W.heap[w.heap.size]? = _ from hbox] at hk
          cases hk
          cases ho
        · obtain ⟨_, C, fr, hC⟩ := hvb k e.symm
          rw [hC] at hk
          cases hk
          cases ho
      · have := (hvb k e.symm).1
        omega
      · rw [List.length_append]
        exact own_setCell hown2 (hbx2.not_row (by decide) hown2) _
      · rw [List.map_append]
        refine Pieces.snoc ?_ ?_
        · refine (((((hpc.kept (grown_drew W) (by simp)).below hbel1).kept (World.grownBy_alloc w' _ none) (by simp)).kept hg2 ?_).kept (grownBy_setCell' _ _ _) ?_)
          · intro r hr C fr hC
            obtain ⟨_, C', fr', hC'⟩ := hvb r hr
            rw [Below.heap_alloc _ _ _ (by have := blk_lt hC'; omega), hbel1.block _ (blk_lt hC')] at hC
            have := (show W.heap[r]? = _ from hC).symm.trans hC'
            cases this
          · intro r hr C fr hC
            cases hr
            rw [show w2.heap[w.heap.size]? = _ from hbx2] at hC
            cases hC
        · refine own_setCell ((own_lower (hown1.alloc _) (by simp; omega)).kept hg2 ?_) ?_ _
          · rcases hown1.2 with ⟨hv, _⟩ | ⟨g, cap, cur, hv, hgb, _⟩
            · exact .inl (by rw [hv]; rfl)
            · refine .inr fun e => ?_
              rw [hv] at e
              obtain ⟨_, _, _, hC⟩ := hvb g e.symm
              have := blk_lt hC
              have hgb : W.heap.size ≤ g := hgb
              omega
          · exact hbx1.not_row (by decide) hown1)
  case done =>
    rintro D xs W hD rfl ⟨⟨v, cs, hbox, hown, hpc⟩, hbel⟩ hDf
    have hb := hbox.cell
    obtain ⟨A2, c2, rfl⟩ := own_slice hown
    gi_wp2
    refine ⟨by simp, .inl ⟨_, _, rfl, run_takeDeferred hDf, ?_⟩⟩
    refine ⟨_, results_tmp rfl _ _ _, ?_⟩
    have hgp := grownBy_putObj' W D (.deferred none)
    simp only [List.length_range] at hown hbox
    simp only [World.size_alloc] at hD
    refine ⟨A2, chK N m, c2, cs, rfl, Lib.hid rfl, own_lower (hown.kept hgp ?_) (by omega), (hpc.kept hgp ?_).lower (by omega), (hb3.trans hbel).grown hgp (hb3.trans hbel).size (fun k e => by cases e; omega)⟩
    · rcases hown.2 with ⟨hv, _⟩ | ⟨g, cap, cur, hv, hgb, hgc, _⟩
      · exact .inl (by rw [hv]; rfl)
      · refine .inr fun e => ?_
        rw [hv] at e
        cases e
        rw [hgc] at hDf
        cases hDf
    · intro r hr C fr hC
      cases hr
      rw [hDf] at hC
      cases hC
  case stop =>
    rintro D c pre W _ _ h _
    exact h.elim

end Go.Proofs.Ythnehmfpadahiaa
