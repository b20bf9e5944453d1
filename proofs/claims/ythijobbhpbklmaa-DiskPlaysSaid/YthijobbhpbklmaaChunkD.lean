/- slices.Chunk over bytes: its closure's contract, as an iterator that may be stopped. -/
import Derived.RangeFuncNested
import Derived.RangeFuncBound
import Derived.RangeFuncCalls
import Derived.RangeFuncBox
import Derived.RangeFuncLeaves
import Derived.Shelf.Abstract
import Derived.Shelf.RegionOpen
import Derived.OwnWalkIn
import Derived.TacticsInMore
import Derived.LoopNIn
import Derived.LoopIn
import Derived.Test.YthijobbhpbklmaaDAwake
namespace Go.Proofs.Ythijobbhpbklmaa
open Go.RowKit Go.Shelf
set_option linter.unusedVariables false
set_option linter.unusedSimpArgs false
attribute [local go_sem] Oper.semAt_some

/-- Piece k of so many bytes each. -/
def chE (n m k : Nat) : Nat := min m (n - k * m)
def chL (l : List UInt8) (m k : Nat) : List UInt8 := (l.drop (k * m)).take m
def chA (A : Option Addr) (m k : Nat) : Option Addr := A.map (·.add (k * m))
def chV (A : Option Addr) (n m k : Nat) : Value := .slice (chA A m k) (chE n m k) (chE n m k)
/-- How many pieces there are. -/
def chK (n m : Nat) : Nat := (n + m - 1) / m
theorem chL_length (l : List UInt8) (m k : Nat) : (chL l m k).length = chE l.length m k := by simp [chL, chE]

/-- s[l:h:h] -/
theorem cut_lhm {P : Program} (t e : TypeId) (kl kh km : IntKind) {i : TypeInfo} (ht : P.underlying t = some (.slice e)) (hi : P.info? e = some i) (hsz : i.size = 1) (A : Option Addr) (n c a b : Nat) (hab : a < b) (hb : b ≤ c) :
    ∀ W : World, (Instr.slice t (.slice A n c) (some (.int kl (a : Int))) (some (.int kh (b : Int))) (some (.int km (b : Int)))).run P W = .ok (.slice (A.map (·.add a)) (b - a) (b - a)) W := by
  intro W
  have hel : P.elem t = e := by simp [Program.elem, ht]
  have hu : P.underlying t = some (.slice (P.elem t)) := by rw [hel]; exact ht
  rw [run_slice_lhm W t A n c hu kl kh km (a : Int) (b : Int) (b : Int) (Int.natCast_nonneg _) (by omega) (Int.le_refl _) (by omega), hel]
  have : ¬ b - a = 0 := by omega
  simp [sizeOf, typeInfo, hi, hsz, sliced, Result.andThen]
  intro h
  omega

theorem Sl.piece {w : World} {B : Nat} {A : Option Addr} {n c : Nat} {l : List UInt8} (h : Sl w B A n c l) (m k : Nat) : Sl w B (chA A m k) (chE n m k) (chE n m k) (chL l m k) := by
  refine ⟨⟨by rw [bv_length, chL_length, h.len]; omega, fun hn => ?_⟩, by rw [chL_length, h.len], Nat.le_refl _, fun hA => ?_⟩
  · have hlt : k * m < n := by unfold chE at hn; omega
    obtain ⟨ad, rfl, hb, hc⟩ := h.reads.2 (by omega)
    refine ⟨ad.add (k * m), rfl, by rw [block_of_add]; exact hb, fun j u hu => ?_⟩
    rw [add_of_add]
    refine hc _ u ?_
    simp only [bv, chL, List.map_take, List.map_drop] at hu
    rw [List.getElem?_take] at hu
    split at hu
    · rw [List.getElem?_drop] at hu
      exact hu
    · cases hu
  · cases A with
    | none =>
      have h1 := h.nil rfl
      have h2 := h.cap
      unfold chE
      omega
    | some a => cases hA

/-- Whatever lay below n1 but in one block lies as it lay. -/
def KB (n1 b : Nat) (W W' : World) : Prop := W.heap.size ≤ W'.heap.size ∧ ∀ k, k < n1 → k ≠ b → W'.heap[k]? = W.heap[k]?
theorem KB.refl (n1 b : Nat) (W : World) : KB n1 b W W := ⟨Nat.le_refl _, fun _ _ _ => rfl⟩
theorem KB.trans {n1 b : Nat} {A B C : World} (h : KB n1 b A B) (k : KB n1 b B C) : KB n1 b A C := ⟨Nat.le_trans h.1 k.1, fun i hi hb => (k.2 i hi hb).trans (h.2 i hi hb)⟩
theorem KB.of_below {n1 b : Nat} {A B : World} (h : Below n1 A B) : KB n1 b A B := ⟨h.size, fun k hk _ => h.block k hk⟩
theorem KB.put {n1 b : Nat} {w : World} (hn : n1 ≤ w.heap.size) (W : World) (l : Nat) (o o' : Obj) (hl : w.heap.size ≤ l) (h : W.heap[l]? = some o) (_ : o.isCells = false) (_ : o.isWalk = false) : KB n1 b W (W.putObj l o') := KB.of_below (belowK_b hn W l o o' hl h ‹_› ‹_›)
theorem Sl.kb {w w' : World} {B n1 b : Nat} {A : Option Addr} {n c : Nat} {l : List UInt8} (h : Sl w B A n c l) (hk : KB n1 b w w') (h1 : B ≤ n1) (h2 : B ≤ b) : Sl w' B A n c l :=
  h.keep fun k hlt => hk.2 k (by omega) (by omega)

theorem chK_iff (n m k : Nat) (hm : 1 ≤ m) : k < chK n m ↔ k * m < n := by
  unfold chK
  rw [Nat.lt_iff_add_one_le, Nat.le_div_iff_mul_le (by omega), Nat.add_mul, Nat.one_mul]
  omega
theorem KB.cell {n1 b : Nat} {W W' : World} (h : KB n1 b W W') {g i : Nat} (hg : g < n1) (hb : g ≠ b) : W'.cell? ⟨g, i, none⟩ = W.cell? ⟨g, i, none⟩ := World.cell?_of_block (w := W) (h.2 g hg hb)

theorem grown_drew (w : World) : w.grownBy w.drew none := ⟨rfl, rfl, rfl, Nat.le_refl _, fun _ _ _ => rfl⟩

set_option maxRecDepth 100000 in
set_option maxHeartbeats 2000000 in
/-- slices.Chunk's closure, for every loop body that keeps what lay below n1 but the block bo. -/
theorem chunk1_in (F : Fence) (n : Nat) (h54 : F.fn 76) (hro : F.round = none) (hn : 1 ≤ n) (l Bs Bn n1 bo : Nat) (A : Option Addr) (N c m : Nat) (hN : N ≤ 140737488355328) (hm1 : 1 ≤ m) (hm2 : m ≤ 4096) (hNc : N ≤ c)
    (hs1 : Bs < n1) (hs2 : Bs ≠ bo) (hn1 : Bn < n1) (hn2 : Bn ≠ bo) (J Jx : List Nat → World → Prop)
    (hY : ∀ pre x W, J pre W → pre.length < chK N m → YieldAt F (n - 1) Try.prog l #[chV A N m x] W fun e W' =>
      (e = .returned (.bool true) ∧ J (pre ++ [x]) W' ∧ KB n1 bo W W') ∨ (e = .returned (.bool false) ∧ Jx (pre ++ [x]) W'))
    (hJ : ∀ s X Y, J s X → X.grownBy Y none → J s Y) (W : World) (hBs : W.cell? ⟨Bs, 0, none⟩ = some (.slice A N c)) (hBn : W.cell? ⟨Bn, 0, none⟩ = some (.int .i64 (m : Int))) (h0 : J [] W) :
    CallsIn F n Try.prog 76 #[.func (.yield l) #[] #[], .pointer (some ⟨Bs, 0, none⟩), .pointer (some ⟨Bn, 0, none⟩)] W fun e W' => (∃ v, e = .returned v) ∧
      ((∃ ys, ys = List.range (chK N m) ∧ J ys W') ∨ (∃ pre, (∃ k, k ≤ chK N m ∧ pre = List.range k) ∧ Jx pre W')) := by
  obtain ⟨ii, hi0, hz0, hz1, hz2⟩ := info_parts info_u8
  have hmx : Try.prog.follows .mixedOrders = true := by kernel_rfl
  refine callsIn_of_wp Try.func76 rfl h54 ?_ hro
  simp only [Try.ntmps76, List.size_toArray, List.length_cons, List.length_nil, Nat.reduceAdd, Nat.reduceSub, Array.replicate_succ, Array.replicate_zero, List.push_toArray, List.append_toArray, List.nil_append, List.cons_append]
  gi_wp2
  gi_loopw [4] (fun i wr => ∃ k p : Nat, k ≤ chK N m ∧ Hid (p = k * m) ∧ p ≤ N + 4096 ∧ i = .int .i64 (p : Int) ∧ J (List.range k) wr ∧ KB n1 bo W wr)
    (fun i _ => N + 4096 - (intOf i).toNat)
  case atStart => exact ⟨0, 0, Nat.zero_le _, Lib.hid (by simp), by omega, rfl, h0, KB.refl _ _ _⟩
  case round =>
    obtain ⟨k, p, hk, hp, hpN, rfl, hJs, hkb⟩ := hrel
    have cs := (hkb.cell (i := 0) hs1 hs2).trans hBs
    have cn := (hkb.cell (i := 0) hn1 hn2).trans hBn
    by_cases hlt : p < N
    · have hkK : k < chK N m := (chK_iff N m k hm1).2 (by rw [← hp.out]; exact hlt)
      obtain ⟨A', hcut', _⟩ := cut_l (P := Try.prog) 30 5 .i64 Try.underlying30 hi0 hz1 A N c p (by omega)
      have hcut : ∀ W : World, (Instr.slice 30 (.slice A N c) (some (.int .i64 (p : Int))) none none).run Try.prog W = .ok (.slice A' (N - p) (c - p)) W := hcut'
      obtain ⟨E, hE⟩ : ∃ E, min m (N - p) = E := ⟨_, rfl⟩
      have hE1 : 1 ≤ E := by omega
      have hE2 : p + E ≤ N := by omega
      have hE3 : E ≤ 4096 := by omega
      have hv : chV A N m k = .slice (A.map (·.add p)) E E := by unfold chV chA chE; rw [← hp.out, hE]
      have hlhm : ∀ W : World, (Instr.slice 30 (.slice A N c) (some (.int .i64 (p : Int))) (some (.int .i64 ((p : Int) + (E : Int)))) (some (.int .i64 ((p : Int) + (E : Int))))).run Try.prog W = .ok (.slice (A.map (·.add p)) E E) W := by
        intro W
        have := cut_lhm (P := Try.prog) 30 5 .i64 .i64 .i64 Try.underlying30 hi0 hz1 A N c p (p + E) (by omega) (by omega) W
        rw [show ((p + E : Nat) : Int) = (p : Int) + (E : Int) from by omega, show p + E - p = E from by omega] at this
        exact this
      obtain ⟨fn, tmps, assign, body, hy, hR⟩ := hY (List.range k) k wr.drew (hJ _ _ _ hJs (grown_drew wr)) (by rw [List.length_range]; exact hkK)
      rw [hv] at hy
      have hmin : (if N - p < m then ((N - p : Nat) : Int) else (m : Int)) = (E : Int) := by split <;> omega
      have HE := Lib.hid hE
      clear hE hv hcut'
      gi_wp2
      gi_region_o
      all_goals (
        gi_wp2
        refine hR.mono ?_
        rintro e W3 (⟨rfl, hJ3, hk3⟩ | ⟨rfl, hJx3⟩)
        · have hkb3 := hkb.trans (KB.trans (KB.refl n1 bo wr) hk3)
          have cn3 := (hkb3.cell (i := 0) hn1 hn2).trans hBn
          gi_wp2
          go_roundw
          case rel => exact ⟨k + 1, p + m, by omega, Lib.hid (by rw [hp.out]; rw [Nat.add_mul, Nat.one_mul]), by omega, by go_num, by rw [List.range_succ]; exact hJ3, hkb3⟩
          case measure => simp [intOf]; omega
        · gi_wp2
          refine bodyPost_ret (results_none rfl _ _ _) rfl ?_
          exact ⟨⟨_, rfl⟩, .inr ⟨_, ⟨k + 1, by omega, (List.range_succ).symm⟩, hJx3⟩⟩)
    · obtain rfl : k = chK N m := by
        rcases Nat.lt_or_ge k (chK N m) with h | h
        · exact absurd ((chK_iff N m k hm1).1 h) (by rw [← hp.out]; exact hlt)
        · omega
      gi_wp2
      go_end0
      exact ⟨⟨_, rfl⟩, .inl ⟨_, rfl, hJs⟩⟩

end Go.Proofs.Ythijobbhpbklmaa
