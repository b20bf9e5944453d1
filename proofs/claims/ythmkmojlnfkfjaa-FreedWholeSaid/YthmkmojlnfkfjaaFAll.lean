/- freed.all's closure, as an iterator that may be stopped. -/
import Derived.RangeFuncNested
import Derived.RangeFuncBound
import Derived.RangeFuncCalls
import Derived.RangeFuncBox
import Derived.RangeFuncLeaves
import Derived.Shelf.Abstract
import Derived.Shelf.RegionOpen
import Derived.OwnWalkIn
import Derived.TacticsInMore
import Derived.LoopNIn
import Derived.LoopIn
import Derived.Test.YthmkmojlnfkfjaaFGather
namespace Go.Proofs.Ythmkmojlnfkfjaa
open Go.RowKit Go.Shelf
set_option linter.unusedVariables false
set_option linter.unusedSimpArgs false
attribute [local go_sem] Oper.semAt_some

/-- Records as pairs. -/
def fFl (rs : List FRc) : List FP := rs.flatMap fun r => r.2.map fun x => (r.1, x)
theorem fFl_snoc (rs : List FRc) (r : FRc) : fFl (rs ++ [r]) = fFl rs ++ r.2.map fun x => (r.1, x) := by simp [fFl]
theorem fFl_take_le (rs : List FRc) {k : Nat} {r : FRc} (h : rs[k]? = some r) (j : Nat) (hj : j < r.2.length) : (fFl (rs.take k) ++ (r.2.take j).map fun x => (r.1, x)).length < (fFl rs).length := by
  have h1 : rs = rs.take k ++ r :: rs.drop (k + 1) := by
    obtain ⟨hi, rfl⟩ := List.getElem?_eq_some_iff.1 h
    rw [← List.drop_eq_getElem_cons hi, List.take_append_drop]
  have h2 : (fFl rs).length = (fFl (rs.take k)).length + (r.2.length + (fFl (rs.drop (k + 1))).length) := by
    conv => lhs; rw [h1]
    simp [fFl]
  rw [h2]
  simp
  omega

/-- Whatever lay below n1 but in one block lies as it lay; so do cells of any type but a pair's. -/
def KBT (n1 b : Nat) (W W' : World) : Prop := W.heap.size ≤ W'.heap.size ∧ (∀ k, k < n1 → k ≠ b → W'.heap[k]? = W.heap[k]?) ∧ ∀ (k : Nat) (C : Array Value) (t : TypeId) (fr : Nat × Nat), k ≠ b → t ≠ 51 → W.heap[k]? = some (.cells C t fr) → W'.heap[k]? = W.heap[k]?
theorem KBT.refl (n1 b : Nat) (W : World) : KBT n1 b W W := ⟨Nat.le_refl _, fun _ _ _ => rfl, fun _ _ _ _ _ _ _ => rfl⟩
theorem KBT.trans {n1 b : Nat} {A B C : World} (h : KBT n1 b A B) (k : KBT n1 b B C) : KBT n1 b A C :=
  ⟨Nat.le_trans h.1 k.1, fun i hi hb => (k.2.1 i hi hb).trans (h.2.1 i hi hb), fun i c t fr hi ht hc => by
    have h1 := h.2.2 i c t fr hi ht hc
    exact (k.2.2 i c t fr hi ht (h1.trans hc)).trans h1⟩
theorem KBT.of_below {n1 b : Nat} {A B : World} (h : Below A.heap.size A B) (hn : n1 ≤ A.heap.size) : KBT n1 b A B := ⟨h.size, fun k hk _ => h.block k (by omega), fun k C t fr _ _ hc => h.block k (blk_lt hc)⟩
theorem KBT.put {n1 b : Nat} {w : World} (hn : n1 ≤ w.heap.size) (W : World) (l : Nat) (o o' : Obj) (hl : w.heap.size ≤ l) (h : W.heap[l]? = some o) (h1 : o.isCells = false) (_ : o.isWalk = false) : KBT n1 b W (W.putObj l o') := by
  have hb := belowK_b hn W l o o' hl h h1 ‹_›
  refine ⟨hb.size, fun k hk _ => hb.block k hk, fun k C t fr _ _ hc => ?_⟩
  by_cases e : k = l
  · subst e
    rw [hc] at h
    cases h
    cases h1
  · exact World.putObj_heap_other e
theorem KBT.recs {w w' : World} {B n1 b : Nat} {A : Option Addr} {n : Nat} {rs : List FRc} (h : Recs w B A n rs) (hk : KBT n1 b w w') (h1 : B ≤ n1) (h2 : B ≤ b) : Recs w' B A n rs := by
  refine ⟨h.1, fun i r hi => ?_⟩
  obtain ⟨ad, Ap, np, cp, h3, h4, h5, h6, h7⟩ := h.2 i r hi
  have hc : ∀ p : Addr, p.block < B → w'.cell? p = w.cell? p := fun p hp => World.cell?_of_block (hk.2.1 p.block (by omega) (by omega))
  exact ⟨ad, Ap, np, cp, h3, h4, (hc _ h4).trans h5, (hc _ (by rw [block_of_add]; exact h4)).trans h6, h7.keep hc⟩
theorem KBT.cell {n1 b : Nat} {W W' : World} (h : KBT n1 b W W') {g i : Nat} (hg : g < n1) (hb : g ≠ b) : W'.cell? ⟨g, i, none⟩ = W.cell? ⟨g, i, none⟩ := World.cell?_of_block (w := W) (h.2.1 g hg hb)
theorem grown_drew (w : World) : w.grownBy w.drew none := ⟨rfl, rfl, rfl, Nat.le_refl _, fun _ _ _ => rfl⟩
def pAg (x : FP) : Value := .agg #[.int .u64 (x.1 : Int), .int .u32 (x.2 : Int)]

set_option maxRecDepth 100000 in
set_option maxHeartbeats 4000000 in
theorem all1_in (F : Fence) (n : Nat) (hfn : F.fn 52) (hro : F.round = none) (hn : 1 ≤ n) (l Bs n1 bo B : Nat) (A : Option Addr) (N c : Nat) (rs : List FRc) (hN : N ≤ 1000000000)
    (hs1 : Bs < n1) (hs2 : Bs ≠ bo) (hB1 : B ≤ n1) (hB2 : B ≤ bo) (J Jx : List FP → World → Prop)
    (hY : ∀ pre x W, J pre W → pre.length < (fFl rs).length → YieldAt F (n - 1) Try.prog l #[pAg x] W fun e W' =>
      (e = .returned (.bool true) ∧ J (pre ++ [x]) W' ∧ KBT n1 bo W W') ∨ (e = .returned (.bool false) ∧ Jx (pre ++ [x]) W'))
    (hJ : ∀ s X Y, J s X → X.grownBy Y none → J s Y) (W : World) (hnW : n1 ≤ W.heap.size) (hbo : bo < W.heap.size) (hBs : W.cell? ⟨Bs, 0, none⟩ = some (.slice A N c)) (hR : Recs W B A N rs) (hpl : ∀ r ∈ rs, r.2.length ≤ 1000000000) (h0 : J [] W) :
    CallsIn F n Try.prog 52 #[.func (.yield l) #[] #[], .pointer (some ⟨Bs, 0, none⟩)] W fun e W' => (∃ v, e = .returned v) ∧
      ((∃ ys, ys = fFl rs ∧ J ys W') ∨ (∃ pre, True ∧ Jx pre W')) := by
  refine callsIn_of_wp Try.func52 rfl hfn ?_ hro
  simp only [Try.ntmps52, List.size_toArray, List.length_cons, List.length_nil, Nat.reduceAdd, Nat.reduceSub, Array.replicate_succ, Array.replicate_zero, List.push_toArray, List.append_toArray, List.nil_append, List.cons_append]
  gi_wp2
  gi_loopw [9] (fun i wr => ∃ k : Nat, k ≤ N ∧ i = .int .i64 (k : Int) ∧ J (fFl (rs.take k)) wr ∧ KBT n1 bo W wr) (fun i _ => N - (intOf i).toNat)
  case atStart => exact ⟨0, Nat.zero_le _, rfl, h0, KBT.refl _ _ _⟩
  case round =>
    obtain ⟨k, hk, rfl, hJs, hkb⟩ := hrel
    by_cases hlt : k < N
    · obtain ⟨r, ad, Ap, np, cp, hr, rfl, hat⟩ := (KBT.recs hR hkb hB1 hB2).at_ hlt
      obtain ⟨hB, a0, a1', hpg⟩ := hat
      have a1 : wr.cell? ⟨(ad.add (k * 2)).block, (ad.add (k * 2)).off + 1, none⟩ = some (.slice Ap np cp) := a1'
      have hws := hkb.1
      have hq0 := heap_alloc_new wr (.cells #[.int .u64 (r.1 : Int), .slice Ap np cp] 69)
      have hk1 := hkb.trans (KBT.of_below ((Below.refl wr.heap.size wr).alloc (Nat.le_refl _) (.cells #[.int .u64 (r.1 : Int), .slice Ap np cp] 69)) (by omega))
      have hJ1 := hJ _ _ _ hJs (World.grownBy_alloc wr (.cells #[.int .u64 (r.1 : Int), .slice Ap np cp] 69) none)
      have hpg1 := hpg.alloc' (.cells #[.int .u64 (r.1 : Int), .slice Ap np cp] 69)
      have hnp : r.2.length = np := by have := hpg.1; rw [Pgs_length] at this; omega
      have hnb := hpl r (List.mem_of_getElem? hr)
      have hqs : wr.heap.size ≠ bo := by omega
      have x1 := blk_cell hq0 1
      clear hJs hpg hkb
      gi_wp2
      obtain ⟨q, hq⟩ : ∃ q, wr.heap.size = q := ⟨_, rfl⟩
      rw [hq] at hq0 hqs ⊢
      generalize wr.alloc (.cells #[.int .u64 (r.1 : Int), .slice Ap np cp] 69) = W1 at hq0 hk1 hJ1 hpg1 x1 ⊢
      have hqW : q < W1.heap.size := blk_lt hq0
      clear a0 a1 a1' x1 hq hws
      have HR := Lib.hid hr
      clear hr
      gi_loopw [16] (fun i wi => ∃ j : Nat, j ≤ np ∧ i = .int .i64 (j : Int) ∧ J (fFl (rs.take k) ++ (r.2.take j).map fun x => (r.1, x)) wi ∧ KBT n1 bo W1 wi) (fun i _ => np - (intOf i).toNat)
      case atStart => exact ⟨0, Nat.zero_le _, rfl, by simpa using hJ1, KBT.refl _ _ _⟩
      case round =>
        obtain ⟨j, hj, rfl, hJj, hkj⟩ := hrel
        have hq1 := (hkj.2.2 q _ _ _ hqs (by decide) hq0).trans hq0
        have b0 := blk_cell hq1 0
        by_cases hjl : j < np
        · have hpgj : Reads wr B 1 Ap np (Pgs r.2) := hpg1.keep fun p hp => World.cell?_of_block (hkj.2.1 p.block (by omega) (by omega))
          obtain ⟨ap, u, rfl, hapb, hu, hcu⟩ := hpgj.at_ hjl
          obtain ⟨x, hx⟩ : ∃ x, r.2[j]? = some x := ⟨_, List.getElem?_eq_getElem (by omega)⟩
          have hux : u = .int .u32 (x : Int) := by
            simp only [Pgs, List.getElem?_map, hx, Option.map_some] at hu
            exact (Option.some.inj hu).symm
          subst hux
          have hlen := fFl_take_le rs HR.out j (by omega)
          obtain ⟨fn, tmps, assign, body, hy, hRr⟩ := hY _ (r.1, x) wr hJj hlen
          have HX := Lib.hid hx
          have hlt' : (j : Int) < (np : Int) := by omega
          clear hpgj hu hx hlen
          unfold pAg at hy
          gi_wp2
          refine hRr.mono ?_
          rintro e W3 (⟨rfl, hJ3, hk3⟩ | ⟨rfl, hJx3⟩)
          · have hnew : J (fFl (rs.take k) ++ (r.2.take (j + 1)).map fun x => (r.1, x)) W3 := by
              rw [take_succ_some HX.out, List.map_append, ← List.append_assoc]
              exact hJ3
            clear hJ3 hy hRr
            gi_wp2
            go_roundw
            case rel => exact ⟨j + 1, by omega, by go_num, hnew, hkj.trans hk3⟩
            case measure => simp [intOf]; omega
          · clear hy hRr
            gi_wp2
            refine bodyPost_ret (results_none rfl _ _ _) rfl ?_
            exact ⟨⟨_, rfl⟩, .inr ⟨_, trivial, hJx3⟩⟩
        · obtain rfl : j = np := by omega
          have hfl : fFl (rs.take (k + 1)) = fFl (rs.take k) ++ (r.2.take j).map fun x => (r.1, x) := by
            rw [take_succ_some HR.out, fFl_snoc, show r.2.take j = r.2 from List.take_of_length_le (by omega)]
          rw [← hfl] at hJj
          clear hfl
          gi_wp2
          go_roundw
          case rel => exact ⟨k + 1, by omega, by go_num, hJj, hk1.trans hkj⟩
          case measure => simp [intOf]; omega
    · obtain rfl : k = N := by omega
      have hlr := hR.1
      rw [List.take_of_length_le (by omega)] at hJs
      gi_wp2
      go_end0
      exact ⟨⟨_, rfl⟩, .inl ⟨_, rfl, hJs⟩⟩

end Go.Proofs.Ythmkmojlnfkfjaa
