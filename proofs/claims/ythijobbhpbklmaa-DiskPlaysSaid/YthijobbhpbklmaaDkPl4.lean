/- ChunkD; FromA -/
import Derived.RangeFuncNested
import Derived.RangeFuncBound
import Derived.RangeFuncCalls
import Derived.RangeFuncBox
import Derived.RangeFuncLeaves
import Derived.Shelf.Abstract
import Derived.Shelf.RegionOpen
import Derived.OwnWalkIn
import Derived.TacticsInMore
import Derived.LoopNIn
import Derived.LoopIn
import Derived.Test.YthijobbhpbklmaaDkPl3
import Derived.Maps.AppendAt
set_option linter.unusedVariables false
set_option linter.unusedSimpArgs false
/- slices.Chunk over bytes: its closure's contract, as an iterator that may be stopped. -/
namespace Go.Proofs.Ythijobbhpbklmaa
open Go.RowKit Go.Shelf
attribute [local go_sem] Oper.semAt_some
def chE (n m k : Nat) : Nat := min m (n - k * m)
def chL (l : List UInt8) (m k : Nat) : List UInt8 := (l.drop (k * m)).take m
def chA (A : Option Addr) (m k : Nat) : Option Addr := A.map (·.add (k * m))
def chV (A : Option Addr) (n m k : Nat) : Value := .slice (chA A m k) (chE n m k) (chE n m k)
def chK (n m : Nat) : Nat := (n + m - 1) / m
theorem chL_length (l : List UInt8) (m k : Nat) : (chL l m k).length = chE l.length m k := by simp [chL, chE]
theorem cut_lhm {P : Program} (t e : TypeId) (kl kh km : IntKind) {i : TypeInfo} (ht : P.underlying t = some (.slice e)) (hi : P.info? e = some i) (hsz : i.size = 1) (A : Option Addr) (n c a b : Nat) (hab : a < b) (hb : b ≤ c) :
    ∀ W : World, (Instr.slice t (.slice A n c) (some (.int kl (a : Int))) (some (.int kh (b : Int))) (some (.int km (b : Int)))).run P W = .ok (.slice (A.map (·.add a)) (b - a) (b - a)) W := by
  intro W
  have hel : P.elem t = e := by simp [Program.elem, ht]
  have hu : P.underlying t = some (.slice (P.elem t)) := by rw [hel]; exact ht
  rw [run_slice_lhm W t A n c hu kl kh km (a : Int) (b : Int) (b : Int) (Int.natCast_nonneg _) (by omega) (Int.le_refl _) (by omega), hel]
  have : ¬ b - a = 0 := by omega
  simp [sizeOf, typeInfo, hi, hsz, sliced, Result.andThen]
  intro h
  omega
theorem Sl.piece {w : World} {B : Nat} {A : Option Addr} {n c : Nat} {l : List UInt8} (h : Sl w B A n c l) (m k : Nat) : Sl w B (chA A m k) (chE n m k) (chE n m k) (chL l m k) := by
  refine ⟨⟨by rw [bv_length, chL_length, h.len]; omega, fun hn => ?_⟩, by rw [chL_length, h.len], Nat.le_refl _, fun hA => ?_⟩
  · have hlt : k * m < n := by unfold chE at hn; omega
    obtain ⟨ad, rfl, hb, hc⟩ := h.reads.2 (by omega)
    refine ⟨ad.add (k * m), rfl, by rw [block_of_add]; exact hb, fun j u hu => ?_⟩
    rw [add_of_add]
    refine hc _ u ?_
    simp only [bv, chL, List.map_take, List.map_drop] at hu
    rw [List.getElem?_take] at hu
    split at hu
    · rw [List.getElem?_drop] at hu
      exact hu
    · cases hu
  · cases A with
    | none =>
      have h1 := h.nil rfl
      have h2 := h.cap
      unfold chE
      omega
    | some a => cases hA
def KB (n1 b : Nat) (W W' : World) : Prop := W.heap.size ≤ W'.heap.size ∧ ∀ k, k < n1 → k ≠ b → W'.heap[k]? = W.heap[k]?
theorem KB.refl (n1 b : Nat) (W : World) : KB n1 b W W := ⟨Nat.le_refl _, fun _ _ _ => rfl⟩
theorem KB.trans {n1 b : Nat} {A B C : World} (h : KB n1 b A B) (k : KB n1 b B C) : KB n1 b A C := ⟨Nat.le_trans h.1 k.1, fun i hi hb => (k.2 i hi hb).trans (h.2 i hi hb)⟩
theorem KB.of_below {n1 b : Nat} {A B : World} (h : Below n1 A B) : KB n1 b A B := ⟨h.size, fun k hk _ => h.block k hk⟩
theorem KB.put {n1 b : Nat} {w : World} (hn : n1 ≤ w.heap.size) (W : World) (l : Nat) (o o' : Obj) (hl : w.heap.size ≤ l) (h : W.heap[l]? = some o) (_ : o.isCells = false) (_ : o.isWalk = false) : KB n1 b W (W.putObj l o') := KB.of_below (belowK_b hn W l o o' hl h ‹_› ‹_›)
theorem chK_iff (n m k : Nat) (hm : 1 ≤ m) : k < chK n m ↔ k * m < n := by
  unfold chK
  rw [Nat.lt_iff_add_one_le, Nat.le_div_iff_mul_le (by omega), Nat.add_mul, Nat.one_mul]
  omega
theorem KB.cell {n1 b : Nat} {W W' : World} (h : KB n1 b W W') {g i : Nat} (hg : g < n1) (hb : g ≠ b) : W'.cell? ⟨g, i, none⟩ = W.cell? ⟨g, i, none⟩ := World.cell?_of_block (w := W) (h.2 g hg hb)
theorem grown_drew (w : World) : w.grownBy w.drew none := ⟨rfl, rfl, rfl, Nat.le_refl _, fun _ _ _ => rfl⟩
set_option maxRecDepth 100000 in
set_option maxHeartbeats 2000000 in
theorem chunk1_in (F : Fence) (n : Nat) (h54 : F.fn 76) (hro : F.round = none) (hn : 1 ≤ n) (l Bs Bn n1 bo : Nat) (A : Option Addr) (N c m : Nat) (hN : N ≤ 140737488355328) (hm1 : 1 ≤ m) (hm2 : m ≤ 4096) (hNc : N ≤ c)
    (hs1 : Bs < n1) (hs2 : Bs ≠ bo) (hn1 : Bn < n1) (hn2 : Bn ≠ bo) (J Jx : List Nat → World → Prop)
    (hY : ∀ pre x W, J pre W → pre.length < chK N m → YieldAt F (n - 1) Try.prog l #[chV A N m x] W fun e W' =>
      (e = .returned (.bool true) ∧ J (pre ++ [x]) W' ∧ KB n1 bo W W') ∨ (e = .returned (.bool false) ∧ Jx (pre ++ [x]) W'))
    (hJ : ∀ s X Y, J s X → X.grownBy Y none → J s Y) (W : World) (hBs : W.cell? ⟨Bs, 0, none⟩ = some (.slice A N c)) (hBn : W.cell? ⟨Bn, 0, none⟩ = some (.int .i64 (m : Int))) (h0 : J [] W) :
    CallsIn F n Try.prog 76 #[.func (.yield l) #[] #[], .pointer (some ⟨Bs, 0, none⟩), .pointer (some ⟨Bn, 0, none⟩)] W fun e W' => (∃ v, e = .returned v) ∧
      ((∃ ys, ys = List.range (chK N m) ∧ J ys W') ∨ (∃ pre, (∃ k, k ≤ chK N m ∧ pre = List.range k) ∧ Jx pre W')) := by
  obtain ⟨ii, hi0, hz0, hz1, hz2⟩ := info_parts info_u8
  have hmx : Try.prog.follows .mixedOrders = true := by kernel_rfl
  refine callsIn_of_wp Try.func76 rfl h54 ?_ hro
  simp only [Try.ntmps76, List.size_toArray, List.length_cons, List.length_nil, Nat.reduceAdd, Nat.reduceSub, Array.replicate_succ, Array.replicate_zero, List.push_toArray, List.append_toArray, List.nil_append, List.cons_append]
  gi_wp2
  gi_loopw [4] (fun i wr => ∃ k p : Nat, k ≤ chK N m ∧ Hid (p = k * m) ∧ p ≤ N + 4096 ∧ i = .int .i64 (p : Int) ∧ J (List.range k) wr ∧ KB n1 bo W wr)
    (fun i _ => N + 4096 - (intOf i).toNat)
  case atStart => exact ⟨0, 0, Nat.zero_le _, Lib.hid (by simp), by omega, rfl, h0, KB.refl _ _ _⟩
  case round =>
    obtain ⟨k, p, hk, hp, hpN, rfl, hJs, hkb⟩ := hrel
    have cs := (hkb.cell (i := 0) hs1 hs2).trans hBs
    have cn := (hkb.cell (i := 0) hn1 hn2).trans hBn
    by_cases hlt : p < N
    · have hkK : k < chK N m := (chK_iff N m k hm1).2 (by rw [← hp.out]; exact hlt)
      obtain ⟨A', hcut', _⟩ := cut_l (P := Try.prog) 30 5 .i64 Try.underlying30 hi0 hz1 A N c p (by omega)
      have hcut : ∀ W : World, (Instr.slice 30 (.slice A N c) (some (.int .i64 (p : Int))) none none).run Try.prog W = .ok (.slice A' (N - p) (c - p)) W := hcut'
      obtain ⟨E, hE⟩ : ∃ E, min m (N - p) = E := ⟨_, rfl⟩
      have hE1 : 1 ≤ E := by omega
      have hE2 : p + E ≤ N := by omega
      have hE3 : E ≤ 4096 := by omega
      have hv : chV A N m k = .slice (A.map (·.add p)) E E := by unfold chV chA chE; rw [← hp.out, hE]
      have hlhm : ∀ W : World, (Instr.slice 30 (.slice A N c) (some (.int .i64 (p : Int))) (some (.int .i64 ((p : Int) + (E : Int)))) (some (.int .i64 ((p : Int) + (E : Int))))).run Try.prog W = .ok (.slice (A.map (·.add p)) E E) W := by
        intro W
        have := cut_lhm (P := Try.prog) 30 5 .i64 .i64 .i64 Try.underlying30 hi0 hz1 A N c p (p + E) (by omega) (by omega) W
        rw [show ((p + E : Nat) : Int) = (p : Int) + (E : Int) from by omega, show p + E - p = E from by omega] at this
        exact this
      obtain ⟨fn, tmps, assign, body, hy, hR⟩ := hY (List.range k) k wr.drew (hJ _ _ _ hJs (grown_drew wr)) (by rw [List.length_range]; exact hkK)
      rw [hv] at hy
      have hmin : (if N - p < m then ((N - p : Nat) : Int) else (m : Int)) = (E : Int) := by split <;> omega
      have HE := Lib.hid hE
      clear hE hv hcut'
      gi_wp2
      gi_region_o
      all_goals (
        gi_wp2
        refine hR.mono ?_
        rintro e W3 (⟨rfl, hJ3, hk3⟩ | ⟨rfl, hJx3⟩)
        · have hkb3 := hkb.trans (KB.trans (KB.refl n1 bo wr) hk3)
          have cn3 := (hkb3.cell (i := 0) hn1 hn2).trans hBn
          gi_wp2
          go_roundw
          case rel => exact ⟨k + 1, p + m, by omega, Lib.hid (by rw [hp.out]; rw [Nat.add_mul, Nat.one_mul]), by omega, by go_num, by rw [List.range_succ]; exact hJ3, hkb3⟩
          case measure => simp [intOf]; omega
        · gi_wp2
          refine bodyPost_ret (results_none rfl _ _ _) rfl ?_
          exact ⟨⟨_, rfl⟩, .inr ⟨_, ⟨k + 1, by omega, (List.range_succ).symm⟩, hJx3⟩⟩)
    · obtain rfl : k = chK N m := by
        rcases Nat.lt_or_ge k (chK N m) with h | h
        · exact absurd ((chK_iff N m k hm1).1 h) (by rw [← hp.out]; exact hlt)
        · omega
      gi_wp2
      go_end0
      exact ⟨⟨_, rfl⟩, .inl ⟨_, rfl, hJs⟩⟩
end Go.Proofs.Ythijobbhpbklmaa

/- disk.From: the range over slices.Chunk: what it needs. -/
namespace Go.Proofs.Ythijobbhpbklmaa
open Go.RowKit Go.Shelf
attribute [local go_sem] Oper.semAt_some
attribute [-go_sem] Builtin.append_
theorem info_sl : (Try.prog.info? 30).map (fun i => (i.zero, i.size, i.bytes)) = some (some (.slice none 0 0), 1, 24) := by kernel_rfl
theorem chunk_any (w : World) (A : Option Addr) (N c m : Nat) (hm : 1 ≤ m) :
    Calls Try.prog 59 #[.slice A N c, .int .i64 (m : Int)] w fun e w' => e = .returned (.func (.func 76) #[] #[.pointer (some ⟨w.heap.size, 0, none⟩), .pointer (some ⟨w.heap.size + 1, 0, none⟩)]) ∧ w' = (w.alloc (.cells #[.slice A N c] 30)).alloc (.cells #[.int .i64 (m : Int)] 3) := by
  have d1 : decide ((m : Int) < 1) = false := decide_eq_false (by omega)
  go_enter Try.func59, Try.ntmps59
  go_wp2
  go_ret
  exact ⟨rfl, rfl⟩
theorem chunk_stops (F : Fence) (n : Nat) (h54 : F.fn 76) (hro : F.round = none) (hn : 1 ≤ n) (Bs Bn n1 bo : Nat) (A : Option Addr) (N c m : Nat) (hN : N ≤ 140737488355328) (hm1 : 1 ≤ m) (hm2 : m ≤ 4096) (hNc : N ≤ c)
    (hs1 : Bs < n1) (hs2 : Bs ≠ bo) (hn1 : Bn < n1) (hn2 : Bn ≠ bo) (w : World) (hnw : n1 ≤ w.heap.size) (hBs : w.cell? ⟨Bs, 0, none⟩ = some (.slice A N c)) (hBn : w.cell? ⟨Bn, 0, none⟩ = some (.int .i64 (m : Int))) :
    SeqStopsK F n Try.prog 76 #[.pointer (some ⟨Bs, 0, none⟩), .pointer (some ⟨Bn, 0, none⟩)] (fun k : Nat => #[chV A N m k]) (KB n1 bo) (fun ys => ys = List.range (chK N m)) (fun pre => ∃ k, k ≤ chK N m ∧ pre = List.range k) (chK N m) w :=
  fun l J Jx W hW hJ _ hY h0 =>
    chunk1_in F n h54 hro hn l Bs Bn n1 bo A N c m hN hm1 hm2 hNc hs1 hs2 hn1 hn2 J Jx hY (fun s X Y h hg => hJ s X Y none h hg (fun r e => by cases e)) W
      ((hW.cell (p := ⟨Bs, 0, none⟩) (by show Bs < _; omega)).trans hBs) ((hW.cell (p := ⟨Bn, 0, none⟩) (by show Bn < _; omega)).trans hBn) h0
def Pieces (w : World) (base : Nat) (cs : List Value) (ps : List (List UInt8)) : Prop :=
  cs.length = ps.length ∧ ∀ (i : Nat) (x : Value), cs[i]? = some x → ∃ A n c p, x = .slice A n c ∧ ps[i]? = some p ∧ w.ownsRow base 5 1 (.slice A n c) n (bv p)
theorem Pieces.nil_ (w : World) (base : Nat) : Pieces w base [] [] := ⟨rfl, by simp⟩
theorem Pieces.kept {w w' : World} {base : Nat} {cs : List Value} {ps : List (List UInt8)} {row : Option Nat} (h : Pieces w base cs ps) (hg : w.grownBy w' row)
    (hr : ∀ r, row = some r → ∀ C fr, w.heap[r]? ≠ some (.cells C 5 fr)) : Pieces w' base cs ps := by
  refine ⟨h.1, fun i x hx => ?_⟩
  obtain ⟨A, n, c, p, he, hp, ho⟩ := h.2 i x hx
  refine ⟨A, n, c, p, he, hp, ho.kept hg ?_⟩
  rcases ho.2 with ⟨hv, _⟩ | ⟨g, cap, cur, hv, _, hh, _⟩
  · exact .inl (by rw [hv]; rfl)
  · refine .inr fun e => ?_
    rw [hv] at e
    exact hr g e.symm _ _ hh
theorem own_lower {w : World} {base b' : Nat} {e : TypeId} {size n : Nat} {v : Value} {xs : List Value} (h : w.ownsRow base e size v n xs) (hb : b' ≤ base) : w.ownsRow b' e size v n xs := by
  refine ⟨h.1, ?_⟩
  rcases h.2 with h | ⟨g, cap, cur, hv, hgb, hh⟩
  · exact .inl h
  · exact .inr ⟨g, cap, cur, hv, Nat.le_trans hb hgb, hh⟩
theorem Pieces.below {w w' : World} {base : Nat} {cs : List Value} {ps : List (List UInt8)} (h : Pieces w base cs ps) (hb : Below w.heap.size w w') : Pieces w' base cs ps := by
  refine ⟨h.1, fun i x hx => ?_⟩
  obtain ⟨A, n, c, p, he, hp, ho⟩ := h.2 i x hx
  exact ⟨A, n, c, p, he, hp, own_below ho hb (Nat.le_refl _)⟩
theorem Pieces.snoc {w : World} {base : Nat} {cs : List Value} {ps : List (List UInt8)} (h : Pieces w base cs ps) {A : Option Addr} {n c : Nat} {p : List UInt8} (ho : w.ownsRow base 5 1 (.slice A n c) n (bv p)) : Pieces w base (cs ++ [.slice A n c]) (ps ++ [p]) := by
  refine ⟨by simp [h.1], fun i x hx => ?_⟩
  by_cases hi : i < cs.length
  · rw [List.getElem?_append_left hi] at hx
    obtain ⟨A', n', c', p', he, hp, ho'⟩ := h.2 i x hx
    exact ⟨A', n', c', p', he, by rw [List.getElem?_append_left (by rw [← h.1]; exact hi)]; exact hp, ho'⟩
  · have hlen := (List.getElem?_eq_some_iff.1 hx).1
    simp at hlen
    obtain rfl : i = cs.length := by omega
    simp at hx
    exact ⟨A, n, c, p, hx.symm, by rw [h.1]; simp, ho⟩
theorem Pieces.one {w : World} {base : Nat} {cs : List Value} {ps : List (List UInt8)} (h : Pieces w base cs ps) : ∀ u ∈ cs, u.oneCell' = true := by
  intro u hu
  obtain ⟨i, hi, rfl⟩ := List.getElem_of_mem hu
  obtain ⟨A, n, c, p, he, _⟩ := h.2 i _ (List.getElem?_eq_getElem hi)
  rw [he]
  rfl
theorem alloc_cell0 (w : World) (v : Value) (t : TypeId) : (w.alloc (.cells #[v] t)).cell? ⟨w.heap.size, 0, none⟩ = some v := (Boxed.new w t v).cell
theorem append_piece (w : World) (base : Nat) (v : Value) (k : Nat) (cs : List Value) (h : w.ownsRow base 30 1 v k cs) (A : Option Addr) (n c B : Nat) (hk : k ≤ 1099511627776) (hb : base ≤ w.heap.size)
    (hB : w.cell? ⟨B, 0, none⟩ = some (.slice A n c)) (hB2 : B < w.heap.size) : ∃ v' w', (Builtin.append_ #[106, 106] 106 #[v, .slice (some ⟨B, 0, none⟩) 1 1]).run Try.prog w = .ok v' w' ∧
      w'.ownsRow base 30 1 v' (k + 1) (cs ++ [.slice A n c]) ∧ w.grownBy w' v.ownBlock ∧ (v'.ownBlock = v.ownBlock ∨ v'.ownBlock = some w.heap.size) := by
  obtain ⟨is, si0, sz0, sz1, sz2⟩ := info_parts info_sl
  exact run_append_any (P := Try.prog) w base 106 106 30 is _ 1 24 Try.underlying106 si0 sz0 sz1 sz2 rfl (by omega) v k cs h w.heap.size (some ⟨B, 0, none⟩) 1 1 [.slice A n c]
    ⟨rfl, fun _ => ⟨_, rfl, hB2, fun j u hu => by cases j with | zero => simp at hu; subst hu; exact hB | succ j => simp at hu⟩⟩ (by simp [Value.oneCell']) (by unfold maxLen; omega) (by omega) hb
def dFrom (size limit : Nat) (l : List UInt8) : Dk := { dNew size limit with good := (List.range (l.length / size)).map (chL l size) }
theorem chK_div (n m : Nat) (hm : 0 < m) (h : n % m = 0) : chK n m = n / m := by
  unfold chK
  obtain ⟨q, rfl⟩ : ∃ q, n = q * m := ⟨n / m, by have := Nat.div_add_mod n m; rw [h, Nat.mul_comm] at this; omega⟩
  rw [Nat.mul_div_cancel _ hm, show q * m + m - 1 = (m - 1) + m * q by rw [Nat.mul_comm]; omega, Nat.add_mul_div_left _ _ hm, Nat.div_eq_of_lt (by omega), Nat.zero_add]
theorem chL_full (l : List UInt8) (m k : Nat) (hm : 0 < m) (h : l.length % m = 0) (hk : k < l.length / m) : (chL l m k).length = m := by
  rw [chL_length]
  unfold chE
  have h1 : (k + 1) * m ≤ l.length / m * m := Nat.mul_le_mul_right _ hk
  have h2 := Nat.div_mul_le_self l.length m
  rw [Nat.add_mul, Nat.one_mul] at h1
  omega
theorem dFrom_ok (size limit : Nat) (l : List UInt8) (h : NewOk (size : Int) (limit : Int)) (h1 : l.length % size = 0) (h2 : l.length / size ≤ limit) : (dFrom size limit l).OK := by
  have k := dNew_ok size limit h
  have hs : 0 < size := by have := k.s1; show 0 < (dNew size limit).size; omega
  refine ⟨k.s1, k.s2, k.s3, k.l1, k.l2, ?_, ?_, (by intro x hx; cases hx), k.f1, k.f2⟩
  · show ((List.range (l.length / size)).map (chL l size)).length ≤ limit
    rw [List.length_map, List.length_range]
    exact h2
  · intro r hr
    obtain ⟨i, hi, rfl⟩ := List.mem_map.1 hr
    exact chL_full l size i hs h1 (List.mem_range.1 hi)
theorem from_own (n1 p bx S L : Nat) (l : List UInt8) (m : Nat) : Own (fun (pre : List Nat) W => ∃ v cs, DBlk W p S L v (.slice none 0 0) (-1) 0 0 (.slice none 0 0) ∧ Boxed W bx 23 (.pointer (some ⟨p, 0, none⟩)) ∧ W.ownsRow n1 30 1 v pre.length cs ∧ Pieces W n1 cs (pre.map (chL l m))) := by
  rintro s X Y row ⟨v, cs, hd, hv, hr, hp⟩ hg hrow
  have hno : ∀ (g : Nat) C t fr, X.heap[g]? = some (.cells C t fr) → row ≠ some g := by
    intro g C t fr h e
    obtain ⟨o, ho, hc⟩ := hrow g e
    rw [h] at ho
    cases ho
    cases hc
  refine ⟨v, cs, (hg.block p hd.lt (fun e => hno _ _ _ _ hd e.symm)).trans hd, hv.kept hg (fun e => hno _ _ _ _ hv e.symm), hr.kept hg ?_, hp.kept hg (fun r e C fr h => hno r _ _ _ h e)⟩
  rcases hr.2 with ⟨rfl, _⟩ | ⟨g, cap, cur, rfl, _, hgb, _⟩
  · exact .inl rfl
  · exact .inr fun e => hno g _ _ _ hgb e.symm
theorem Pieces.grow {w : World} {base n1 : Nat} {ok : Nat → Prop} {G : Value} {A : Option Addr} {c : Nat} {cs : List Value} {good : List (List UInt8)} (hG : G = .slice A good.length c) (ho : w.ownsRow n1 30 1 G good.length cs) (h : Pieces w n1 cs good) (hb : base ≤ n1) (hok : ∀ k, n1 ≤ k → ok k) (hpos : ∀ r ∈ good, 0 < r.length) : GRow w base ok G good := by
  refine ⟨A, c, cs, hG, own_lower ho hb, fun k hk => hok k (ho.lt k hk).1, fun i l hi => ?_⟩
  obtain ⟨x, hx⟩ : ∃ x, cs[i]? = some x := ⟨_, List.getElem?_eq_getElem (by rw [h.1]; exact (List.getElem?_eq_some_iff.1 hi).1)⟩
  obtain ⟨A', n', c', p', rfl, hp', ho'⟩ := h.2 i x hx
  rw [hi] at hp'
  injection hp' with hp'
  subst hp'
  have hl : l.length = n' := by have := ho'.1; simp [bv_length] at this; exact this
  exact ⟨_, hx, PgAt.of_own ho' (by rw [← hl]; exact hpos l (List.mem_of_getElem? hi)) hok⟩
end Go.Proofs.Ythijobbhpbklmaa
