/- freed.Flat: a range over the iterator. -/
import Derived.Test.YthmkmojlnfkfjaaFAll
import Derived.Maps.AppendAt
namespace Go.Proofs.Ythmkmojlnfkfjaa
open Go.RowKit Go.Shelf
set_option linter.unusedVariables false
set_option linter.unusedSimpArgs false
attribute [local go_sem] Oper.semAt_some
attribute [-go_sem] Builtin.append_

theorem all_any (w : World) (A : Option Addr) (N c : Nat) :
    Calls Try.prog 41 #[.slice A N c] w fun e w' => e = .returned (.func (.func 52) #[] #[.pointer (some ⟨w.heap.size, 0, none⟩)]) ∧ w' = w.alloc (.cells #[.slice A N c] 55) := by
  go_enter Try.func41, Try.ntmps41
  go_wp2
  go_ret
  exact ⟨rfl, rfl⟩
theorem all_stops (F : Fence) (n : Nat) (hfn : F.fn 52) (hro : F.round = none) (hn : 1 ≤ n) (Bs n1 bo B : Nat) (A : Option Addr) (N c : Nat) (rs : List FRc) (hN : N ≤ 1000000000)
    (hs1 : Bs < n1) (hs2 : Bs ≠ bo) (hB1 : B ≤ n1) (hB2 : B ≤ bo) (w : World) (hnw : n1 ≤ w.heap.size) (hbo : bo < w.heap.size) (hBs : w.cell? ⟨Bs, 0, none⟩ = some (.slice A N c)) (hR : Recs w B A N rs) (hpl : ∀ r ∈ rs, r.2.length ≤ 1000000000) :
    SeqStopsK F n Try.prog 52 #[.pointer (some ⟨Bs, 0, none⟩)] (fun x : FP => #[pAg x]) (KBT n1 bo) (fun ys => ys = fFl rs) (fun _ => True) (fFl rs).length w :=
  fun l J Jx W hW hJ _ hY h0 =>
    all1_in F n hfn hro hn l Bs n1 bo B A N c rs hN hs1 hs2 hB1 hB2 J Jx hY (fun s X Y h hg => hJ s X Y none h hg (fun r e => by cases e)) W (Nat.le_trans hnw hW.size) (Nat.lt_of_lt_of_le hbo hW.size)
      ((hW.cell (p := ⟨Bs, 0, none⟩) (by show Bs < _; omega)).trans hBs) (hR.below (hW.mono (by omega))) hpl h0

theorem append_pair (w : World) (base : Nat) (v : Value) (k : Nat) (cs : List Value) (h : w.ownsRow base 51 2 v k cs) (x : FP) (hk : k ≤ 1000000000) (hb : base ≤ w.heap.size) :
    ∃ v' w', (Builtin.append_ #[28, 28] 28 #[v, .slice (some ⟨w.heap.size, 0, none⟩) 1 1]).run Try.prog (w.alloc (.cells #[.int .u64 (x.1 : Int), .int .u32 (x.2 : Int)] 51)) = .ok v' w' ∧
      w'.ownsRow base 51 2 v' (k + 1) (cs ++ [.int .u64 (x.1 : Int), .int .u32 (x.2 : Int)]) ∧ (w.alloc (.cells #[.int .u64 (x.1 : Int), .int .u32 (x.2 : Int)] 51)).grownBy w' v.ownBlock := by
  obtain ⟨ip, pi0, pz0, pz1, pz2⟩ := info_parts info_pair
  obtain ⟨v', w', h1, h2, h3, _⟩ := run_append_any (P := Try.prog) (w.alloc (.cells #[.int .u64 (x.1 : Int), .int .u32 (x.2 : Int)] 51)) base 28 28 51 ip _ 2 16 Try.underlying28 pi0 pz0 pz1 pz2 rfl (by omega) v k cs (h.alloc _) (w.heap.size + 1) (some ⟨w.heap.size, 0, none⟩) 1 1 [.int .u64 (x.1 : Int), .int .u32 (x.2 : Int)]
    (Reads.two _ _ _ _) (by simp [Value.oneCell']) (by unfold maxLen; omega) (by omega) (by simp; omega)
  exact ⟨v', w', h1, h2, h3⟩

theorem flat_own (n1 B : Nat) : Own (fun (pre : List FP) W => ∃ v, Boxed W B 28 v ∧ W.ownsRow n1 51 2 v pre.length (PCs pre)) := by
  rintro s X Y row ⟨v, hv, hr⟩ hg hrow
  have hno : ∀ (g : Nat) C t fr, X.heap[g]? = some (.cells C t fr) → row ≠ some g := by
    intro g C t fr h e
    obtain ⟨o, ho, hc⟩ := hrow g e
    rw [h] at ho
    cases ho
    cases hc
  refine ⟨v, hv.kept hg (fun e => hno _ _ _ _ hv e.symm), hr.kept hg ?_⟩
  rcases hr.2 with ⟨rfl, _⟩ | ⟨g, cap, cur, rfl, _, hgb, _⟩
  · exact .inl rfl
  · exact .inr fun e => hno g _ _ _ hgb e.symm
theorem box_own (q : Nat) (C : Array Value) (t : TypeId) (p : Prop) : Own (fun (_ : Unit) W => W.heap[q]? = some (.cells C t (0, 0)) ∧ p) := by
  rintro s X Y row ⟨hv, hp⟩ hg hrow
  refine ⟨(hg.block q (blk_lt hv) (fun e => ?_)).trans hv, hp⟩
  obtain ⟨o, ho, hc⟩ := hrow q e.symm
  rw [hv] at ho
  cases ho
  cases hc

set_option maxRecDepth 100000 in
set_option maxHeartbeats 4000000 in
theorem fflat_any (w : World) (B : Nat) (A : Option Addr) (N c : Nat) (rs : List FRc) (h : Recs w B A N rs) (hBw : B ≤ w.heap.size) (hN : N ≤ 1000000000) (hpl : ∀ r ∈ rs, r.2.length ≤ 1000000000) (htot : (fFl rs).length ≤ 1000000000) :
    Calls Try.prog 21 #[.slice A N c] w fun e w' => ∃ Av nv cv, e = .returned (.slice Av nv cv) ∧ Hid (nv = (fFl rs).length) ∧ w'.ownsRow w.heap.size 51 2 (.slice Av nv cv) nv (PCs (fFl rs)) ∧ Below w.heap.size w w' := by
  have hmx : Try.prog.follows .mixedOrders = true := by kernel_rfl
  refine (callsIn_wide (n := 4)).1 ?_
  refine callsIn_of_wp_marks Try.func21 rfl trivial ?_ rfl
  simp only [Try.ntmps21, List.size_toArray, List.length_cons, List.length_nil, Nat.reduceAdd, Nat.reduceSub, Array.replicate_succ, Array.replicate_zero, List.push_toArray, List.append_toArray, List.nil_append, List.cons_append]
  gi_wp2_with (first | (refine ⟨trivial, ?_⟩; gi_at_call 41; refine (callsIn_wide.2 (all_any _ _ _ _)).mono ?_; rintro e w' ⟨rfl, rfl⟩))
  have hbs : (w.alloc (.cells #[.slice none 0 0] 28)).heap.size = w.heap.size + 1 := by simp
  have hbx0 : Boxed ((w.alloc (.cells #[.slice none 0 0] 28)).alloc (.cells #[.slice A N c] 55)) w.heap.size 28 (.slice none 0 0) := (Boxed.new _ _ _).alloc _
  have hBs : ((w.alloc (.cells #[.slice none 0 0] 28)).alloc (.cells #[.slice A N c] 55)).cell? ⟨w.heap.size + 1, 0, none⟩ = some (.slice A N c) := by
    have := (Boxed.new (w.alloc (.cells #[.slice none 0 0] 28)) 55 (.slice A N c)).cell
    rwa [hbs] at this
  have hb2 : Below w.heap.size w ((w.alloc (.cells #[.slice none 0 0] 28)).alloc (.cells #[.slice A N c] 55)) := ((Below.refl _ w).alloc (Nat.le_refl _) _).alloc (by simp) _
  have hz2 : ((w.alloc (.cells #[.slice none 0 0] 28)).alloc (.cells #[.slice A N c] 55)).heap.size = w.heap.size + 2 := by simp
  have hR2 := h.below (hb2.mono hBw)
  generalize (w.alloc (.cells #[.slice none 0 0] 28)).alloc (.cells #[.slice A N c] 55) = w2 at hbx0 hBs hb2 hz2 hR2 ⊢
  clear hbs h
  refine wpIn_rangeFunc_ownH rfl (by omega) (gf := 52) (lb := #[.pointer (some ⟨w.heap.size + 1, 0, none⟩)]) rfl trivial (enters_of Try.func52 (by kernel_rfl) rfl)
    (all_stops Fence.wide _ trivial rfl (by omega) (w.heap.size + 1) (w.heap.size + 2) w.heap.size B A N c rs hN (by omega) (by omega) (by omega) (by omega) w2 (by omega) (by omega) hBs hR2 hpl)
    (fun h k => h.trans k) (fun W l o o' hl h1 h2 h3 => KBT.put (w := w2) (by omega) W l o o' hl h1 h2 h3) (Below.refl _ _) (fun _ => rfl)
    (fun pre W => (∃ v, Boxed W w.heap.size 28 v ∧ W.ownsRow (w.heap.size + 2) 51 2 v pre.length (PCs pre)) ∧ Below w.heap.size w2 W)
    (fun _ _ _ => False) ?own (fun _ _ _ _ _ h _ _ => h) ?start
    (fun x a' W => ∃ q, a' = { tmps := #[.slice A N c, undef, .slice none 0 0, .pointer (some ⟨w.heap.size, 0, none⟩), .pointer (some ⟨q, 0, none⟩), .slice A N c, .func (.func 52) #[] #[.pointer (some ⟨w.heap.size + 1, 0, none⟩)], .agg #[.int .u64 (x.1 : Int), .int .u32 (x.2 : Int)], undef, undef, undef, undef, undef], defers := [] } ∧ W.heap[q]? = some (.cells #[.int .u64 (x.1 : Int), .int .u32 (x.2 : Int)] 51 (0, 0)) ∧ w2.heap.size ≤ q)
    ?hax ?assign ?body ?done ?stop
  case own => exact OwnFrom.and (Own.from (flat_own _ _) _) (ownFrom_below hb2.size hb2.size)
  case start => exact ⟨⟨_, hbx0, World.ownsRow_nil _ _ _ _⟩, Below.refl _ _⟩
  case hax =>
    rintro x a' s X Y row ⟨q, he, hb, hq⟩ hg hr
    refine ⟨q, he, (hg.block q (blk_lt hb) (fun e => ?_)).trans hb, hq⟩
    obtain ⟨_, o, ho, hc⟩ := hr q e.symm
    rw [hb] at ho
    cases ho
    cases hc
  case assign =>
    rintro l1 pre x W K ⟨⟨v, hbox, hown⟩, hbel⟩ hK
    have hWs := hbel.size
    have hK' := hK _ (W.alloc (.cells #[.int .u64 (x.1 : Int), .int .u32 (x.2 : Int)] 51)) (KeepsFrom.of_grownBy (World.grownBy_alloc W _ none) (fun j e => by cases e)) (KBT.of_below ((Below.refl W.heap.size W).alloc (Nat.le_refl _) _) (by omega))
      ⟨⟨v, hbox.alloc _, hown.alloc _⟩, hbel.alloc (by omega) _⟩ ⟨W.heap.size, rfl, heap_alloc_new _ _, by omega⟩
    clear hK
    simp only [pAg]
    gi_wp2
    exact hK'
  case body =>
    rintro l1 pre x a' W hl1 hr1 ⟨⟨v, hbox, hown⟩, hbel⟩ ⟨q, rfl, hq, hqs⟩ hlt
    have hWs := hbel.size
    have hb := hbox.cell
    have q0 := blk_cell hq 0
    have q1 := blk_cell hq 1
    obtain ⟨v2, w3, hrun, hown2, hg2⟩ := append_pair W _ v pre.length _ hown x (by omega) (by omega)
    obtain ⟨A2, c2, rfl⟩ := own_slice hown2
    have hbx2 : Boxed w3 w.heap.size 28 v := (hbox.alloc _).kept hg2 (hbox.not_row (by decide) hown)
    have hc2 := hbx2.cell
    have hf2 := hbx2.frozen
    clear hr1
    gi_wp2
    have hmid : ∀ k, k < W.heap.size → k ≠ w.heap.size → some k ≠ v.ownBlock → (w3.setCell ⟨w.heap.size, 0, none⟩ (.slice A2 (pre.length + 1) c2)).heap[k]? = W.heap[k]? := fun k hk hkB hkv =>
      (Below.heap_setCell _ _ _ k (fun e => hkB e)).trans ((hg2.block k (by simp; omega) hkv).trans (Below.heap_alloc _ _ k (by omega)))
    have hs3 := hg2.size
    simp only [World.size_alloc] at hs3
    have hvb : ∀ k, v.ownBlock = some k → w.heap.size + 2 ≤ k ∧ ∃ C, W.heap[k]? = some (.cells C 51 (0, 0)) := by
      intro k hk
      rcases hown.2 with ⟨rfl, _⟩ | ⟨g, cap, cur, rfl, hgb, hgc, _⟩
      · cases hk
      · cases hk
        exact ⟨hgb, _, hgc⟩
    have hb4 : Below w.heap.size W (w3.setCell ⟨w.heap.size, 0, none⟩ (.slice A2 (pre.length + 1) c2)) :=
      (((Below.refl w.heap.size W).alloc (by omega) _).grown hg2 (by simp; omega) (fun k hk => by have := (hvb k hk).1; omega)).setCell (Nat.le_refl _) _
    refine ⟨KeepsOthers.from ⟨hb4.size, fun k o hk ho => ?_⟩ _, ⟨hb4.size, fun k hk hkB => hmid k (by omega) hkB (fun e => ?_), fun k C t fr hkB ht hk => hmid k (blk_lt hk) hkB (fun e => ?_)⟩, ⟨_, hbx2.set _, ?_⟩, hbel.trans hb4⟩
    · refine (hmid k (blk_lt hk) (fun e => ?_) (fun e => ?_)).trans hk
      · subst e
        rw [show W.heap[w.heap.size]? = _ from hbox] at hk
        cases hk
        cases ho
      · obtain ⟨_, C, hC⟩ := hvb k e.symm
        rw [hC] at hk
        cases hk
        cases ho
    · have := (hvb k e.symm).1
      omega
    · obtain ⟨_, C', hC⟩ := hvb k e.symm
      rw [hC] at hk
      cases hk
      exact ht rfl
    · rw [List.length_append, PCs_snoc]
      exact own_setCell hown2 (hbx2.not_row (by decide) hown2) _
  case done =>
    rintro D xs W hD rfl ⟨⟨v, hbox, hown⟩, hbel⟩ hDf
    have hb := hbox.cell
    obtain ⟨A2, c2, rfl⟩ := own_slice hown
    gi_wp2
    refine ⟨by simp, .inl ⟨_, _, rfl, run_takeDeferred hDf, ?_⟩⟩
    refine ⟨_, results_tmp rfl _ _ _, ?_⟩
    have hgp := grownBy_putObj' W D (.deferred none)
    refine ⟨A2, _, c2, rfl, Lib.hid rfl, own_weaken (hown.kept hgp ?_) (by omega), (hb2.trans hbel).grown hgp (hb2.trans hbel).size (fun k e => by cases e; omega)⟩
    rcases hown.2 with ⟨hv, _⟩ | ⟨g, cap, cur, hv, hgb, hgc, _⟩
    · exact .inl (by rw [hv]; rfl)
    · refine .inr fun e => ?_
      rw [hv] at e
      cases e
      rw [hgc] at hDf
      cases hDf
  case stop =>
    rintro D c pre W _ _ h _
    exact h.elim

end Go.Proofs.Ythmkmojlnfkfjaa
