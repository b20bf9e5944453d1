/- Words for memory: slices that are read, rows that are owned, and lists of bytes as cells. Plain lemmas; conditions are stated with each. -/
import Derived.Test.YthijobbhpbklmaaProg
import Derived.Below
import Derived.Laws.OwnMore
import Derived.Laws.Rows
import Derived.Maps.AppendAt
import Derived.Deep.AppendLies
import Derived.Deep.Draws
import Derived.RegionTactic
import Derived.OwnWalk
import Derived.WalkKit
import Derived.Lib.Hide
import Derived.KernelRfl
import Derived.Laws.CopyOwn
import Derived.StillTailTactics
import Derived.Lib.ConvBytes
import Derived.WalkSpells
namespace Go.Proofs.Ythijobbhpbklmaa
open Go.RowKit
set_option linter.unusedVariables false
set_option linter.unusedSimpArgs false

theorem block_of_add (a : Addr) (n : Nat) : (a.add n).block = a.block := by unfold Addr.add; split <;> rfl
theorem add_of_add (a : Addr) (i j : Nat) : (a.add i).add j = a.add (i + j) := by
  unfold Addr.add
  by_cases hi : i = 0 <;> by_cases hj : j = 0 <;> simp [hi, hj, Nat.add_assoc]

/-- The slice value with address A, n elements of size cells, reads as xs, in a block below B. -/
def Reads (w : World) (B size : Nat) (A : Option Addr) (n : Nat) (xs : List Value) : Prop :=
  xs.length = n * size ∧ (0 < n → ∃ ad, A = some ad ∧ ad.block < B ∧ ∀ j u, xs[j]? = some u → w.cell? (ad.add j) = some u)

section
variable {w w' : World} {B B' size n : Nat} {A : Option Addr} {xs : List Value}
theorem Reads.none_ : Reads w B size A 0 [] := ⟨by simp, fun h => absurd h (by omega)⟩
theorem Reads.at_ {k : Nat} (h : Reads w B 1 A n xs) (hk : k < n) : ∃ ad u, A = some ad ∧ ad.block < B ∧ xs[k]? = some u ∧ w.cell? (ad.add k) = some u := by
  obtain ⟨ad, e, hb, hc⟩ := h.2 (by omega)
  have hl : k < xs.length := by have := h.1; omega
  exact ⟨ad, xs[k], e, hb, List.getElem?_eq_getElem hl, hc k _ (List.getElem?_eq_getElem hl)⟩
theorem Reads.keep (h : Reads w B size A n xs) (hk : ∀ p : Addr, p.block < B → w'.cell? p = w.cell? p) : Reads w' B size A n xs :=
  ⟨h.1, fun hn => by
    obtain ⟨ad, e, hb, hc⟩ := h.2 hn
    exact ⟨ad, e, hb, fun j u hu => (hk _ (by rw [block_of_add]; exact hb)).trans (hc j u hu)⟩⟩
theorem Reads.more (h : Reads w B size A n xs) (hB : B ≤ B') : Reads w B' size A n xs :=
  ⟨h.1, fun hn => by
    obtain ⟨ad, e, hb, hc⟩ := h.2 hn
    exact ⟨ad, e, by omega, hc⟩⟩
theorem Reads.below (h : Reads w B size A n xs) (hb : Below B w w') : Reads w' B size A n xs := h.keep fun _ hp => hb.cell hp
theorem Reads.drew (h : Reads w B size A n xs) : Reads w.drew B size A n xs := h
theorem Reads.drewN (h : Reads w B size A n xs) (k : Nat) : Reads (w.drewN k) B size A n xs := h
theorem Reads.alloc (h : Reads w B size A n xs) (hB : B ≤ w.heap.size) (o : Obj) : Reads (w.alloc o) B size A n xs := h.keep fun p hp => World.cell?_alloc_lt w o p (by omega)
theorem Reads.alloc' (h : Reads w B size A n xs) (o : Obj) : Reads (w.alloc o) B size A n xs :=
  ⟨h.1, fun hn => by
    obtain ⟨ad, e, hb, hc⟩ := h.2 hn
    refine ⟨ad, e, hb, fun j u hu => ?_⟩
    have hcell := hc j u hu
    have hlt := World.block_lt_of_cell? w _ hcell
    exact (World.cell?_alloc_lt w o _ hlt).trans hcell⟩
theorem Reads.setCell (h : Reads w B size A n xs) {p : Addr} (hB : B ≤ p.block) (u : Value) : Reads (w.setCell p u) B size A n xs :=
  h.keep fun q hq => World.cell?_setCell_other w p q u (fun e => by subst e; omega)
theorem Reads.cut (h : Reads w B size A n xs) {k cap : Nat} (hk : k ≤ n) (hc : n ≤ cap) :
    Reads w B size (if cap = k then A else A.map (·.add (k * size))) (n - k) (xs.drop (k * size)) := by
  refine ⟨by rw [List.length_drop, h.1, Nat.sub_mul], fun hn => ?_⟩
  obtain ⟨ad, rfl, hb, hcell⟩ := h.2 (by omega)
  rw [if_neg (by omega)]
  refine ⟨ad.add (k * size), rfl, by rw [block_of_add]; exact hb, fun j u hu => ?_⟩
  rw [add_of_add]
  exact hcell _ u (by rw [← hu, List.getElem?_drop])
theorem Reads.of_own {base : Nat} {e : TypeId} {c : Nat} (h : w.ownsRow base e size (.slice A n c) n xs) : Reads w w.heap.size size A n xs := by
  refine ⟨h.1, fun hn => ?_⟩
  obtain ⟨g, cap, hv, _, hlt⟩ := h.form hn
  have hA : A = some ⟨g, 0, none⟩ := by injection hv
  subst hA
  exact ⟨_, rfl, hlt, h.cells (g := g) rfl⟩
end

theorem below_drewN {B : Nat} {a w : World} (h : Below B a w) (n : Nat) : Below B a (w.drewN n) := ⟨h.os, h.tape, h.output, h.size, h.block⟩

section
variable {P : Program} (w : World)

theorem run_append_of_nil (base : Nat) (t ty e : TypeId) (i : TypeInfo) (size : Nat) (ht : P.underlying t = some (.slice e)) (hi : P.info? e = some i)
    (v : Value) (n : Nat) (xs : List Value) (hown : w.ownsRow base e size v n xs) (c : Nat) : (Builtin.append_ #[t, t] ty #[v, .slice none 0 c]).run P w = .ok v w := by
  rcases hown.2 with ⟨rfl, rfl⟩ | ⟨g, cap, cur, rfl, _, _, hnc, _⟩
  · simp [Builtin.append_, run_underlying ht, sizeOf, typeInfo, hi, Builtin.lenOf, Builtin.firstCells]
  · simp [Builtin.append_, run_underlying ht, sizeOf, typeInfo, hi, Builtin.lenOf, Builtin.firstCells, hnc, storeCells]

theorem run_append_any (base : Nat) (t ty e : TypeId) (i : TypeInfo) (z : Value) (size bytes : Nat) (ht : P.underlying t = some (.slice e)) (hi : P.info? e = some i) (hz : i.zero = some z)
    (hsize : i.size = size) (hby : i.bytes = bytes) (hzs : z.cells.size = size) (hsz : 0 < size)
    (v : Value) (n : Nat) (xs : List Value) (hown : w.ownsRow base e size v n xs)
    (B : Nat) (A : Option Addr) (m c : Nat) (news : List Value) (hr : Reads w B size A m news) (h1 : ∀ u ∈ news, u.oneCell' = true)
    (h63 : n + m ≤ maxLen) (hbytes : (n + m) * bytes ≤ 140737488355328) (hbase : base ≤ w.heap.size) :
    ∃ v' w', (Builtin.append_ #[t, t] ty #[v, .slice A m c]).run P w = .ok v' w' ∧ w'.ownsRow base e size v' (n + m) (xs ++ news) ∧ w.grownBy w' v.ownBlock ∧
      (v'.ownBlock = v.ownBlock ∨ v'.ownBlock = some w.heap.size) := by
  rcases A with _ | ad
  · have hm : m = 0 := by
      rcases Nat.eq_zero_or_pos m with h0 | h0
      · exact h0
      · obtain ⟨ad, h, _⟩ := hr.2 h0
        cases h
    subst hm
    have hn : news = [] := List.eq_nil_of_length_eq_zero (by simpa using hr.1)
    subst hn
    exact ⟨v, w, run_append_of_nil w base t ty e i size ht hi v n xs hown c, by simpa using hown, World.grownBy.refl w _, .inl rfl⟩
  · have hcells : ∀ j u, news[j]? = some u → w.cell? (ad.add j) = some u := by
      intro j u hu
      rcases Nat.eq_zero_or_pos m with h0 | h0
      · subst h0
        have hn : news = [] := List.eq_nil_of_length_eq_zero (by simpa using hr.1)
        subst hn
        simp at hu
      · obtain ⟨ad', h, _, hc⟩ := hr.2 h0
        injection h with h
        subst h
        exact hc j u hu
    obtain ⟨v', w', hrun, h2, h3, _, h5⟩ := run_append_own_at (P := P) w base t ty e i z size bytes ht hi hz hsize hby hzs hsz v n xs hown ad m c news hr.1 hcells h1 h63 hbytes hbase
    exact ⟨v', w', hrun, h2, h3, h5⟩

theorem wp_append_any {o : Oper} {a : Act} {K : Act → World → Prop} {Q : Exit → Act → World → Prop} (s x : Operand) (t : TypeId)
    (ho : o.op = .call { callee := .builtin .append, args := #[s, x], argTypes := #[t, t] })
    (base : Nat) (e : TypeId) (i : TypeInfo) (z : Value) (size bytes : Nat) (ht : P.underlying t = some (.slice e)) (hi : P.info? e = some i) (hz : i.zero = some z)
    (hsize : i.size = size) (hby : i.bytes = bytes) (hzs : z.cells.size = size) (hsz : 0 < size)
    (v : Value) (n : Nat) (xs : List Value) (hs : a.eval s = v) (hown : w.ownsRow base e size v n xs)
    (B : Nat) (A : Option Addr) (m c : Nat) (news : List Value) (hx : a.eval x = .slice A m c) (hr : Reads w B size A m news) (h1 : ∀ u ∈ news, u.oneCell' = true)
    (h63 : n + m ≤ maxLen) (hbytes : (n + m) * bytes ≤ 140737488355328) (hbase : base ≤ w.heap.size)
    (h : ∀ v' w', w'.ownsRow base e size v' (n + m) (xs ++ news) → w.grownBy w' v.ownBlock → (v'.ownBlock = v.ownBlock ∨ v'.ownBlock = some w.heap.size) → K (a.put o.dst v') w') : o.wp P a w K Q := by
  obtain ⟨v', w', hrun, h2, h3, h4⟩ := run_append_any (P := P) w base t o.type e i z size bytes ht hi hz hsize hby hzs hsz v n xs hown B A m c news hr h1 h63 hbytes hbase
  unfold Oper.wp execOp
  simp only [ho, resolve, invoke, builtin, Sem.run_bind, Sem.run_pure, Result.andThen_ok, List.map_toArray, List.map_cons, List.map_nil, hs, hx, hrun]
  exact h v' w' h2 h3 h4

theorem wpList_append_any {ops : Array Oper} {rest : List Oper} {o : Oper} {a : Act} {Q : Exit → Act → World → Prop} (hgd : o.guard = none) (s x : Operand) (t : TypeId)
    (ho : o.op = .call { callee := .builtin .append, args := #[s, x], argTypes := #[t, t] })
    (base : Nat) (e : TypeId) (i : TypeInfo) (z : Value) (size bytes : Nat) (ht : P.underlying t = some (.slice e)) (hi : P.info? e = some i) (hz : i.zero = some z)
    (hsize : i.size = size) (hby : i.bytes = bytes) (hzs : z.cells.size = size) (hsz : 0 < size)
    (v : Value) (n : Nat) (xs : List Value) (hs : a.eval s = v) (hown : w.ownsRow base e size v n xs)
    (B : Nat) (A : Option Addr) (m c : Nat) (news : List Value) (hx : a.eval x = .slice A m c) (hr : Reads w B size A m news) (h1 : ∀ u ∈ news, u.oneCell' = true)
    (h63 : n + m ≤ maxLen) (hbytes : (n + m) * bytes ≤ 140737488355328) (hbase : base ≤ w.heap.size)
    (h : ∀ v' w', w'.ownsRow base e size v' (n + m) (xs ++ news) → w.grownBy w' v.ownBlock → (v'.ownBlock = v.ownBlock ∨ v'.ownBlock = some w.heap.size) → wpList P ops Q rest (a.put o.dst v') w') : wpList P ops Q (o :: rest) a w :=
  wpList_plain hgd fun _ hK => wp_append_any w s x t ho base e i z size bytes ht hi hz hsize hby hzs hsz v n xs hs hown B A m c news hx hr h1 h63 hbytes hbase fun v' w' h2 h3 h4 => hK _ _ (h v' w' h2 h3 h4)

theorem step_append_any {ops : Array Oper} {o : Oper} {a : Act} {K : Act → World → Prop} {Q : Exit → Act → World → Prop} {E : Prop} (hgd : o.guard = none) (s x : Operand) (t : TypeId)
    (ho : o.op = .call { callee := .builtin .append, args := #[s, x], argTypes := #[t, t] })
    (base : Nat) (e : TypeId) (i : TypeInfo) (z : Value) (size bytes : Nat) (ht : P.underlying t = some (.slice e)) (hi : P.info? e = some i) (hz : i.zero = some z)
    (hsize : i.size = size) (hby : i.bytes = bytes) (hzs : z.cells.size = size) (hsz : 0 < size)
    (v : Value) (n : Nat) (xs : List Value) (hs : a.eval s = v) (hown : w.ownsRow base e size v n xs)
    (B : Nat) (A : Option Addr) (m c : Nat) (news : List Value) (hx : a.eval x = .slice A m c) (hr : Reads w B size A m news) (h1 : ∀ u ∈ news, u.oneCell' = true)
    (h63 : n + m ≤ maxLen) (hbytes : (n + m) * bytes ≤ 140737488355328) (hbase : base ≤ w.heap.size)
    (h : ∀ v' w', w'.ownsRow base e size v' (n + m) (xs ++ news) → w.grownBy w' v.ownBlock → (v'.ownBlock = v.ownBlock ∨ v'.ownBlock = some w.heap.size) → K (a.put o.dst v') w') :
    if Region.wanted o (yielded ops a.tmps) = true then Oper.wp P o a w K Q else E := by
  have hw : Region.wanted o (yielded ops a.tmps) = true := by simp [Region.wanted, hgd]
  rw [if_pos hw]
  exact wp_append_any w s x t ho base e i z size bytes ht hi hz hsize hby hzs hsz v n xs hs hown B A m c news hx hr h1 h63 hbytes hbase h
end

theorem own_ne {w : World} {base : Nat} {e t : TypeId} {size n g : Nat} {v : Value} {xs : List Value} {cs : Array Value} (h : w.ownsRow base e size v n xs) (hg : w.heap[g]? = some (.cells cs t (0, 0))) (hne : e ≠ t) : some g ≠ v.ownBlock := by
  rcases h.2 with ⟨rfl, _⟩ | ⟨g', cap, cur, rfl, _, hh, _⟩
  · simp [Value.ownBlock]
  · intro he
    have : g' = g := by simpa [Value.ownBlock] using he.symm
    subst this
    rw [hg] at hh
    injection hh with hh
    injection hh with _ ht
    exact hne ht.symm
theorem blk_lt {w : World} {g : Nat} {o : Obj} (h : w.heap[g]? = some o) : g < w.heap.size := (Array.getElem?_eq_some_iff.1 h).1
theorem blk_cell {w : World} {g : Nat} {t : TypeId} {cs : Array Value} (h : w.heap[g]? = some (.cells cs t (0, 0))) (i : Nat) : w.cell? ⟨g, i, none⟩ = cs[i]? := cell_of_row w g i cs t (0, 0) h
theorem blk_frozen {w : World} {g : Nat} {t : TypeId} {cs : Array Value} (h : w.heap[g]? = some (.cells cs t (0, 0))) (i : Nat) : w.frozen? ⟨g, i, none⟩ = false := by simp [World.frozen?, h]
theorem blk_set {w : World} {g : Nat} {t : TypeId} {cs : Array Value} (h : w.heap[g]? = some (.cells cs t (0, 0))) (i : Nat) (u : Value) : (w.setCell ⟨g, i, none⟩ u).heap[g]? = some (.cells (cs.setIfInBounds i u) t (0, 0)) := by
  simp [World.setCell, Array.getElem?_modify, h]
theorem blk_far {w : World} {g : Nat} {t : TypeId} {cs : Array Value} (h : w.heap[g]? = some (.cells cs t (0, 0))) {p : Addr} (hp : g ≠ p.block) (u : Value) : (w.setCell p u).heap[g]? = some (.cells cs t (0, 0)) := (Below.heap_setCell w p u g hp).trans h
theorem blk_alloc {w : World} {g : Nat} {ob : Obj} (h : w.heap[g]? = some ob) (o : Obj) : (w.alloc o).heap[g]? = some ob := (Below.heap_alloc w o g (blk_lt h)).trans h
theorem blk_below {w w1 : World} {B g : Nat} {o : Obj} (h : w.heap[g]? = some o) (hb : Below B w w1) (hg : g < B) : w1.heap[g]? = some o := (hb.block g hg).trans h
theorem blk_grown {w w1 : World} {g : Nat} {o : Obj} {row : Option Nat} (h : w.heap[g]? = some o) (hg : w.grownBy w1 row) (hne : some g ≠ row) : w1.heap[g]? = some o := (hg.block g (blk_lt h) hne).trans h
/-- What a region holds of a block of one cell: the block, its cell, not frozen. -/
def One (w : World) (g : Nat) (t : TypeId) (v : Value) : Prop := w.heap[g]? = some (.cells #[v] t (0, 0))
theorem One.all {w : World} {g : Nat} {t : TypeId} {v : Value} (h : One w g t v) : One w g t v ∧ w.cell? ⟨g, 0, none⟩ = some v ∧ w.frozen? ⟨g, 0, none⟩ = false := ⟨h, blk_cell h 0, blk_frozen h 0⟩
theorem One.alloc {w : World} {g : Nat} {t : TypeId} {v : Value} (h : One w g t v) (o : Obj) : One (w.alloc o) g t v := blk_alloc h o
theorem One.grown {w w1 : World} {g : Nat} {t : TypeId} {v : Value} {row : Option Nat} (h : One w g t v) (hg : w.grownBy w1 row) (hne : some g ≠ row) : One w1 g t v := blk_grown h hg hne
theorem One.grownA {w w1 : World} {g : Nat} {t : TypeId} {v : Value} {row : Option Nat} {o : Obj} (h : One w g t v) (hg : (w.alloc o).drew.grownBy w1 row) (hne : some g ≠ row) : One w1 g t v := One.grown (w := (w.alloc o).drew) (h.alloc o) hg hne
theorem own_slice {w : World} {base n : Nat} {e : TypeId} {size : Nat} {v : Value} {xs : List Value} (h : w.ownsRow base e size v n xs) : ∃ A c, v = .slice A n c := by
  rcases h.2 with ⟨rfl, rfl⟩ | ⟨g, cap, cur, rfl, _⟩
  · exact ⟨none, 0, rfl⟩
  · exact ⟨_, _, rfl⟩
theorem own_setCell {w : World} {base : Nat} {e : TypeId} {size n : Nat} {v : Value} {xs : List Value} (h : w.ownsRow base e size v n xs) {p : Addr} (hne : some p.block ≠ v.ownBlock) (u : Value) : (w.setCell p u).ownsRow base e size v n xs := by
  obtain ⟨h1, h2⟩ := h
  refine ⟨h1, ?_⟩
  rcases h2 with h2 | ⟨g, cap, cur, hv, hg, hh, r⟩
  · exact Or.inl h2
  · refine Or.inr ⟨g, cap, cur, hv, hg, ?_, r⟩
    rw [Below.heap_setCell _ _ _ _ (fun e => hne (by rw [hv, ← e]; rfl))]
    exact hh
theorem own_base {w : World} {base : Nat} {e : TypeId} {size n : Nat} {v : Value} {xs : List Value} (h : w.ownsRow base e size v n xs) (k : Nat) (hk : v.ownBlock = some k) : base ≤ k := (h.lt k hk).1
theorem own_weaken {w : World} {base base' : Nat} {e : TypeId} {size n : Nat} {v : Value} {xs : List Value} (h : w.ownsRow base e size v n xs) (hb : base' ≤ base) : w.ownsRow base' e size v n xs := by
  obtain ⟨h1, h2⟩ := h
  refine ⟨h1, ?_⟩
  rcases h2 with h2 | ⟨g, cap, cur, hv, hg, r⟩
  · exact Or.inl h2
  · exact Or.inr ⟨g, cap, cur, hv, Nat.le_trans hb hg, r⟩
theorem own_below {w w1 : World} {base B : Nat} {e : TypeId} {size n : Nat} {v : Value} {xs : List Value} (h : w.ownsRow base e size v n xs) (hb : Below B w w1) (hB : w.heap.size ≤ B) : w1.ownsRow base e size v n xs := by
  obtain ⟨h1, h2⟩ := h
  refine ⟨h1, ?_⟩
  rcases h2 with h2 | ⟨g, cap, cur, hv, hg, hh, r⟩
  · exact Or.inl h2
  · exact Or.inr ⟨g, cap, cur, hv, hg, blk_below hh hb (Nat.lt_of_lt_of_le (blk_lt hh) hB), r⟩
theorem ret_int {k : IntKind} {a b : Int} (h : a = b) : Ending.returned (.int k a) = .returned (.int k b) := by rw [h]
/-- One cell in a new block. -/
theorem Reads.one (w : World) (u : Value) (t : TypeId) : Reads (w.alloc (.cells #[u] t)) (w.heap.size + 1) 1 (some ⟨w.heap.size, 0, none⟩) 1 [u] :=
  ⟨rfl, fun _ => ⟨_, rfl, by simp, cell_one_new w u t⟩⟩

/-- Bytes as cells. -/
def bv (l : List UInt8) : List Value := l.map fun b => .int .u8 (b.toNat : Int)
theorem bv_length (l : List UInt8) : (bv l).length = l.length := by simp [bv]
theorem bv_append (l m : List UInt8) : bv (l ++ m) = bv l ++ bv m := by simp [bv]
theorem bv_one (l : List UInt8) : ∀ u ∈ bv l, u.oneCell' = true := by
  intro u hu
  obtain ⟨_, _, rfl⟩ := List.mem_map.1 hu
  rfl

/-- A slice of bytes: reads as l below B, n its length, c its capacity. -/
structure Sl (w : World) (B : Nat) (A : Option Addr) (n c : Nat) (l : List UInt8) : Prop where
  reads : Reads w B 1 A n (bv l)
  len : l.length = n
  cap : n ≤ c
  nil : A = none → c = 0

theorem Sl.below {w w' : World} {B : Nat} {A : Option Addr} {n c : Nat} {l : List UInt8} (h : Sl w B A n c l) (hb : Below B w w') : Sl w' B A n c l := ⟨h.reads.below hb, h.len, h.cap, h.nil⟩
theorem Sl.more {w : World} {B B' : Nat} {A : Option Addr} {n c : Nat} {l : List UInt8} (h : Sl w B A n c l) (hB : B ≤ B') : Sl w B' A n c l := ⟨h.reads.more hB, h.len, h.cap, h.nil⟩

/-- What lies in a slice that was there before w stays. -/
theorem Sl.lt' {w : World} {B : Nat} {A : Option Addr} {n c : Nat} {l : List UInt8} (h : Sl w B A n c l) : Sl w w.heap.size A n c l :=
  ⟨⟨h.reads.1, fun hn => by
    obtain ⟨ad, e, hb, hc⟩ := h.reads.2 hn
    have hl : 0 < (bv l).length := by have := h.reads.1; omega
    have := World.block_lt_of_cell? w _ (hc 0 _ (List.getElem?_eq_getElem hl))
    rw [block_of_add] at this
    exact ⟨ad, e, this, hc⟩⟩, h.len, h.cap, h.nil⟩
theorem Sl.belowX {w w' : World} {B : Nat} {A : Option Addr} {n c : Nat} {l : List UInt8} (h : Sl w B A n c l) (hb : Below w.heap.size w w') : Sl w' w.heap.size A n c l := h.lt'.below hb
theorem Sl.get {w : World} {B : Nat} {A : Option Addr} {n c : Nat} {l : List UInt8} (h : Sl w B A n c l) {k : Nat} (hk : k < n) :
    ∃ (ad : Addr) (b : UInt8), A = some ad ∧ ad.block < B ∧ l[k]? = some b ∧ w.cell? (ad.add k) = some (.int .u8 (b.toNat : Int)) := by
  obtain ⟨ad, u, e, hb, hu, hc⟩ := h.reads.at_ hk
  simp only [bv, List.getElem?_map, Option.map_eq_some_iff] at hu
  obtain ⟨b, hb', rfl⟩ := hu
  exact ⟨ad, b, e, hb, hb', hc⟩
theorem take_snoc {α : Type} {l : List α} {k : Nat} {b : α} (h : l[k]? = some b) : l.take (k + 1) = l.take k ++ [b] := by
  obtain ⟨hlt, rfl⟩ := List.getElem?_eq_some_iff.1 h
  exact List.take_succ_eq_append_getElem hlt
theorem Sl.nil_ (w : World) (B : Nat) : Sl w B none 0 0 [] := ⟨Reads.none_, rfl, Nat.le_refl _, fun _ => rfl⟩
theorem Sl.keep {w w' : World} {B : Nat} {A : Option Addr} {n c : Nat} {l : List UInt8} (h : Sl w B A n c l) (hk : ∀ k, k < B → w'.heap[k]? = w.heap[k]?) : Sl w' B A n c l :=
  ⟨h.reads.keep fun p hp => World.cell?_of_block (hk p.block hp), h.len, h.cap, h.nil⟩
theorem Sl.of_own {w : World} {base : Nat} {e : TypeId} {A : Option Addr} {n c : Nat} {l : List UInt8} (h : w.ownsRow base e 1 (.slice A n c) n (bv l)) : Sl w w.heap.size A n c l := by
  refine ⟨Reads.of_own h, by simpa [bv_length] using h.1, ?_, ?_⟩
  · rcases h.2 with ⟨hv, h0⟩ | ⟨g, cap, cur, hv, _, _, hn, _⟩
    · omega
    · injection hv with _ _ hc; omega
  · rcases h.2 with ⟨hv, h0⟩ | ⟨g, cap, cur, hv, _, _, hn, _⟩
    · injection hv with _ _ hc; intro _; exact hc
    · injection hv with ha _ hc; intro hA; rw [hA] at ha; cases ha

/-- s[m:] -/
theorem cut_l {P : Program} (t e : TypeId) (kl : IntKind) {i : TypeInfo} (ht : P.underlying t = some (.slice e)) (hi : P.info? e = some i) (hsz : i.size = 1) (A : Option Addr) (n c m : Nat) (hm : m ≤ n) :
    ∃ A' : Option Addr, (∀ W : World, (Instr.slice t (.slice A n c) (some (.int kl (m : Int))) none none).run P W = .ok (.slice A' (n - m) (c - m)) W) ∧
      ∀ (w : World) (B : Nat) (l : List UInt8), Sl w B A n c l → Sl w B A' (n - m) (c - m) (l.drop m) := by
  refine ⟨if c = m then A else A.map (·.add (m * 1)), fun W => ?_, fun w B l h => ⟨?_, by rw [List.length_drop, h.len], by have := h.cap; omega, ?_⟩⟩
  · have hel : P.elem t = e := by simp [Program.elem, ht]
    have hu : P.underlying t = some (.slice (P.elem t)) := by rw [hel]; exact ht
    rw [run_slice_l W t A n c hu kl (m : Int) (Int.natCast_nonneg _) (by omega), hel]
    simp [sizeOf, typeInfo, hi, hsz, sliced, Result.andThen]
  · have := h.reads.cut hm h.cap
    simpa [bv, List.map_drop] using this
  · intro hA
    have := h.nil
    split at hA
    · omega
    · cases A with
      | none => have := this rfl; omega
      | some a => cases hA
/-- s[:m:m] -/
theorem cut_hm {P : Program} (t e : TypeId) (kh km : IntKind) {i : TypeInfo} (ht : P.underlying t = some (.slice e)) (hi : P.info? e = some i) (hsz : i.size = 1) (A : Option Addr) (n c m : Nat) (hm : m ≤ c) :
    ∃ A' : Option Addr, (∀ W : World, (Instr.slice t (.slice A n c) none (some (.int kh (m : Int))) (some (.int km (m : Int)))).run P W = .ok (.slice A' m m) W) ∧
      ∀ (w : World) (B : Nat) (l : List UInt8), m ≤ n → Sl w B A n c l → Sl w B A' m m (l.take m) := by
  refine ⟨if m = 0 then A else A.map (·.add (0 * 1)), fun W => ?_, fun w B l hmn h => ⟨⟨?_, fun hn => ?_⟩, by rw [List.length_take, h.len]; omega, Nat.le_refl _, ?_⟩⟩
  · have hel : P.elem t = e := by simp [Program.elem, ht]
    have hu : P.underlying t = some (.slice (P.elem t)) := by rw [hel]; exact ht
    rw [run_slice_hm W t A n c hu kh km (m : Int) (m : Int) (Int.natCast_nonneg _) (Int.le_refl _) (by omega), hel]
    simp [sizeOf, typeInfo, hi, hsz, sliced, Result.andThen]
  · simp [bv, h.len]; omega
  · obtain ⟨ad, rfl, hb, hc⟩ := h.reads.2 (by omega)
    rw [if_neg (by omega)]
    refine ⟨ad.add 0, rfl, by rw [block_of_add]; exact hb, fun j u hu => ?_⟩
    rw [add_of_add, Nat.zero_add]
    refine hc j u ?_
    simp only [bv, List.map_take] at hu
    rw [List.getElem?_take] at hu
    split at hu
    · exact hu
    · cases hu
  · intro hA
    have := h.nil
    split at hA
    · omega
    · cases A with
      | none => have := this rfl; omega
      | some a => cases hA

/-- The world has changed at block g alone, and grown. -/
def At (g : Nat) (w w' : World) : Prop := w.grownBy w' (some g)
theorem At.refl (g : Nat) (w : World) : At g w w := World.grownBy.refl w _
theorem At.trans {g : Nat} {a b c : World} (h : At g a b) (k : At g b c) : At g a c := World.grownBy.trans h k
theorem At.of_below {g : Nat} {w w' : World} (h : Below w.heap.size w w') : At g w w' := ⟨h.os, h.tape, h.output, h.size, fun i hi _ => h.block i hi⟩
theorem At.setCell {g : Nat} {w w' : World} (h : At g w w') (i : Nat) (u : Value) : At g w (w'.setCell ⟨g, i, none⟩ u) :=
  ⟨h.os, h.tape, h.output, by simpa [World.setCell] using h.size, fun k hk hne => (Below.heap_setCell w' _ u k (fun e => hne (by rw [e]))).trans (h.block k hk hne)⟩
theorem At.drew {g : Nat} {w w' : World} (h : At g w w') : At g w w'.drew := ⟨h.os, h.tape, h.output, h.size, h.block⟩
theorem At.below {g B : Nat} {w w' : World} (h : At g w w') (hg : B ≤ g) (hB : B ≤ w.heap.size) : Below B w w' :=
  ⟨h.os, h.tape, h.output, h.size, fun k hk => h.block k (by omega) (fun e => by injection e with e; omega)⟩


/-- Block g is just the bytes l. -/
def RowB (w : World) (g : Nat) (l : List UInt8) : Prop := w.heap[g]? = some (.cells (bv l).toArray 5 (0, 0))
theorem RowB.lt {w : World} {g : Nat} {l : List UInt8} (h : RowB w g l) : g < w.heap.size := blk_lt h
theorem RowB.below {w w1 : World} {B g : Nat} {l : List UInt8} (h : RowB w g l) (hb : Below B w w1) (hg : g < B) : RowB w1 g l := blk_below h hb hg
theorem RowB.own {w : World} {g : Nat} {l : List UInt8} (h : RowB w g l) (base : Nat) (hb : base ≤ g) (hm : l.length ≤ 9223372036854775807) :
    w.ownsRow base 5 1 (.slice (some ⟨g, 0, none⟩) l.length l.length) l.length (bv l) :=
  ⟨by simp [bv_length], .inr ⟨g, l.length, (bv l).toArray, rfl, hb, h, Nat.le_refl _, by unfold maxLen; exact hm, by simp [bv_length], by simp [List.take_of_length_le, bv_length]⟩⟩
theorem RowB.cell {w : World} {g : Nat} {l : List UInt8} (h : RowB w g l) {i : Nat} {b : UInt8} (hi : l[i]? = some b) : w.cell? ⟨g, i, none⟩ = some (.int .u8 (b.toNat : Int)) := by
  rw [blk_cell h]
  simp [bv, hi]
theorem RowB.frozen {w : World} {g : Nat} {l : List UInt8} (h : RowB w g l) (i : Nat) : w.frozen? ⟨g, i, none⟩ = false := blk_frozen h i
theorem bv_set (l : List UInt8) (i : Nat) (b : UInt8) : (bv l).set i (.int .u8 (b.toNat : Int)) = bv (l.set i b) := by
  simp [bv, List.map_set]
theorem RowB.set_ {w : World} {g : Nat} {l : List UInt8} (h : RowB w g l) (i : Nat) (b : UInt8) : RowB (w.setCell ⟨g, i, none⟩ (.int .u8 (b.toNat : Int))) g (l.set i b) := by
  have := blk_set h i (.int .u8 (b.toNat : Int))
  unfold RowB
  rw [this, List.setIfInBounds_toArray, bv_set]
theorem RowB.made (w : World) (n : Nat) : RowB (w.alloc (.cells (madeCells (Value.int .u8 0).cells (n * 1)) 5)) w.heap.size (List.replicate n 0) := by
  have h := heap_alloc_new w (.cells (madeCells (Value.int .u8 0).cells (n * 1)) 5)
  unfold RowB
  rw [h]
  congr 2
  apply Array.toList_inj.1
  rw [show (Value.int .u8 0).cells = #[Value.int .u8 0] from rfl, toList_madeCells_one]
  simp [bv]
theorem RowB.sl {w : World} {g : Nat} {l : List UInt8} (h : RowB w g l) (hm : l.length ≤ 9223372036854775807) : Sl w w.heap.size (some ⟨g, 0, none⟩) l.length l.length l :=
  Sl.of_own (h.own 0 (Nat.zero_le _) hm)

theorem wpList_copy_bytes {P : Program} {w : World} {ops : Array Oper} {rest : List Oper} {o : Oper} {a : Act} {Q : Exit → Act → World → Prop} (hgd : o.guard = none) (d s : Operand) (dT sT : TypeId)
    (ho : o.op = .call { callee := .builtin .copy, args := #[d, s], argTypes := #[dT, sT] }) (hu : P.underlying dT = some (.slice 5)) (hsz : (P.info? 5).map (·.size) = some 1)
    (dp sp : Option Addr) (dLen dCap sLen sCap : Nat) (hd : a.eval d = .slice dp dLen dCap) (hs : a.eval s = .slice sp sLen sCap)
    (g off : Nat) (cur : List UInt8) (hg : RowB w g cur) (B : Nat) (m : List UInt8) (hm : Sl w B sp sLen sCap m)
    (hpos : 0 < min sLen dLen → dp = some ⟨g, off, none⟩) (hfit : off + min sLen dLen ≤ cur.length)
    (h : ∀ w', RowB w' g (splice cur off (m.take (min sLen dLen))) → At g w w' → wpList P ops Q rest (a.put o.dst (goInt (min sLen dLen : Nat))) w') :
    wpList P ops Q (o :: rest) a w := by
  have hml := hm.len
  have hcl : (bv (m.take (min sLen dLen))).length = min sLen dLen := by rw [bv_length, List.length_take]; omega
  by_cases h0 : min sLen dLen = 0
  · refine wpList_copy_nothing hgd d s dT sT ho 5 hu hsz dp sp dLen dCap sLen sCap hd hs h0 ?_
    have := h w (by rw [h0]; simpa [splice] using hg) (At.refl _ _)
    rw [h0] at this
    exact this
  · obtain rfl := hpos (by omega)
    obtain ⟨ad, rfl, _, hsrc⟩ := hm.reads.2 (by omega)
    refine wpList_copy_own hgd d s dT sT ho 5 hu hsz g off dLen dCap ad sLen sCap hd hs (bv cur).toArray _ hg (bv (m.take (min sLen dLen))) hcl ?_ (by rw [hcl]; simpa [bv_length] using hfit) (bv_one _) ?_
    · intro j v hv
      refine hsrc j v ?_
      simp only [bv, List.map_take, List.getElem?_take] at hv
      split at hv
      · exact hv
      · cases hv
    · rw [hcl]
      refine h _ ?_ ⟨rfl, rfl, rfl, by simp [World.setRow], fun k hk hne => setRow_other w g k _ (fun e => hne (by rw [e]))⟩
      unfold RowB
      rw [setRow_heap w g _ _ _ _ hg]
      congr 3
      simp [splice, bv, List.map_take, List.map_drop]
      omega

theorem foldl_push_u8 (l : List UInt8) : ∀ s : ByteArray, (l.map fun b => (b.toNat : Int)).foldl (fun s n => s.push (UInt8.ofNat n.toNat)) s = ⟨s.data ++ l.toArray⟩ := by
  induction l with
  | nil => intro s; simp
  | cons b l ih =>
    intro s
    simp only [List.map_cons, List.foldl_cons]
    rw [ih]
    simp [ByteArray.push]
/-- string(b) -/
theorem string_of_sl {P : Program} {w : World} {src dst : TypeId} {B : Nat} {A : Option Addr} {n c : Nat} {l : List UInt8} (hs : P.underlying src = some (.slice 5)) (he : P.underlying 5 = some (.int .u8)) (hd : P.underlying dst = some .string)
    (h : Sl w B A n c l) : (convert src dst (.slice A n c)).run P w = .ok (.string ⟨l.toArray⟩) w := by
  have hn := h.len
  rcases A with _ | ad
  · have hc := h.nil rfl
    have hn0 : n = 0 := by have := h.cap; omega
    subst hn0
    obtain rfl : l = [] := List.eq_nil_of_length_eq_zero hn
    exact run_convert_bytes_nil w src 5 hs he 0 c dst hd
  · have hl : (loadCells ad n).run P w = .ok ((l.map fun b => (b.toNat : Int)).map (Value.int .u8)).toArray w := by
      have := run_loadCells_list (P := P) w ad ((l.map fun b => (b.toNat : Int)).map (Value.int .u8)) (fun j v hj => by
        obtain ⟨ad', he', _, hc⟩ := h.reads.2 (by
          have := (List.getElem?_eq_some_iff.1 hj).1
          simp at this
          omega)
        injection he' with he'
        subst he'
        exact hc j v (by simpa [bv] using hj))
      simpa [hn] using this
    rw [run_convert_bytes_string w src dst 5 _ n c hs he hd, run_bytesToString w ad n c _ hl]
    rw [foldl_push_u8]
    simp [ByteArray.empty, ByteArray.emptyWithCapacity]
    rfl

/-- make([]byte, n): a new block of noughts. -/
theorem wpList_make_bytes {P : Program} (w : World) {ops : Array Oper} {rest : List Oper} {o : Oper} {a : Act} {Q : Exit → Act → World → Prop}
    (hg : o.guard = none) (l c : Operand) (t : TypeId) (hop : o.op = Op.makeSlice t l c) (h1 : P.underlying t = some (.slice 5))
    (hinfo : (P.info? 5).map (fun i => (i.zero, i.size, i.bytes)) = some (some (.int .u8 0), 1, 1))
    (kl kc : IntKind) (N : Int) (hl : a.eval l = .int kl N) (hc : a.eval c = .int kc N) (hN : 0 ≤ N) (b2 : N ≤ 140737488355328)
    (hK : ∀ w', RowB w' w.heap.size (List.replicate N.toNat 0) → Below w.heap.size w w' → wpList P ops Q rest (a.put o.dst (.slice (some ⟨w.heap.size, 0, none⟩) N.toNat N.toNat)) w') :
    wpList P ops Q (o :: rest) a w := by
  obtain ⟨i, h2, h3, h4, h5⟩ := info_parts hinfo
  refine wpList_plain hg fun K hK' => ?_
  have hrun := run_make (P := P) w t 5 i _ h1 h2 h3 kl kc N N hN (Int.le_refl _) (by rw [h5]; omega) (by omega)
  rw [h4] at hrun
  unfold Oper.wp
  simp [execOp, hop, hl, hc, hrun, Result.andThen]
  exact hK' _ _ (hK _ (by simpa using RowB.made w N.toNat) ((Below.refl _ _).alloc (Nat.le_refl _) _))

theorem wpList_make_bytesN {P : Program} (w : World) {ops : Array Oper} {rest : List Oper} {o : Oper} {a : Act} {Q : Exit → Act → World → Prop}
    (hg : o.guard = none) (l c : Operand) (t : TypeId) (hop : o.op = Op.makeSlice t l c) (h1 : P.underlying t = some (.slice 5))
    (hinfo : (P.info? 5).map (fun i => (i.zero, i.size, i.bytes)) = some (some (.int .u8 0), 1, 1))
    (kl kc : IntKind) (N : Int) (hl : a.eval l = .int kl N) (hc : a.eval c = .int kc N) (n : Nat) (hN : (n : Int) = N) (b2 : n ≤ 140737488355328)
    (hK : ∀ w', RowB w' w.heap.size (List.replicate n 0) → Below w.heap.size w w' → wpList P ops Q rest (a.put o.dst (.slice (some ⟨w.heap.size, 0, none⟩) n n)) w') :
    wpList P ops Q (o :: rest) a w := by
  subst hN
  refine wpList_make_bytes w hg l c t hop h1 hinfo kl kc _ hl hc (by omega) (by omega) ?_
  simpa using hK
theorem RowB.slN {w : World} {g : Nat} {l : List UInt8} (h : RowB w g l) {n : Nat} (hn : l.length = n) (hm : n ≤ 9223372036854775807) : Sl w w.heap.size (some ⟨g, 0, none⟩) n n l := by
  subst hn
  exact h.sl hm

/-- A literal's bytes in a new block, marked or not. -/
theorem Sl.lit (w : World) (l : List UInt8) (C : Array Value) (hC : C = (bv l).toArray) (n : Nat) (hn : l.length = n) (fr : Nat × Nat) : Sl (w.alloc (.cells C 5 fr)) (w.heap.size + 1) (some ⟨w.heap.size, 0, none⟩) n n l := by
  subst hC hn
  refine ⟨⟨by simp [bv_length], fun _ => ⟨_, rfl, by simp, fun j u hu => ?_⟩⟩, rfl, Nat.le_refl _, fun h => by cases h⟩
  rw [Addr.add_lit, Nat.zero_add, cell_of_row _ _ _ _ _ fr (heap_alloc_new w _)]
  simpa using hu

/-- A slice of bytes that came in reads as a list of bytes. -/
theorem sl_of_row {w : World} {a : Option Addr} {len cap : Nat} {zs : List Int} (h : (a = none ∧ len = 0 ∧ cap = 0 ∧ zs = []) ∨
    ∃ x, a = some x ∧ len ≤ cap ∧ cap ≤ maxLen ∧ zs.length = cap ∧ (∀ i, i < zs.length → w.cell? (x.add i) = some (.int .u8 (zs.getD i 0))) ∧ ∀ n ∈ zs, (Lit.int .u8 n).wf = true) :
    ∃ l : List UInt8, Sl w w.heap.size a len cap l := by
  rcases h with ⟨rfl, rfl, rfl, rfl⟩ | ⟨x, rfl, hlc, hm, hz, hcell, hwf⟩
  · exact ⟨[], Sl.nil_ _ _⟩
  · refine ⟨(zs.take len).map fun z => UInt8.ofNat z.toNat, ⟨⟨by simp [bv]; omega, fun hn => ?_⟩, by simp; omega, hlc, fun h => by cases h⟩⟩
    have h0 := hcell 0 (by omega)
    have hb := World.block_lt_of_cell? w _ h0
    rw [block_of_add] at hb
    refine ⟨x, rfl, hb, fun j u hu => ?_⟩
    simp only [bv, List.map_map, List.getElem?_map, Option.map_eq_some_iff] at hu
    obtain ⟨z, hz', rfl⟩ := hu
    rw [List.getElem?_take] at hz'
    split at hz'
    · have hj := (List.getElem?_eq_some_iff.1 hz').1
      have hzj : zs.getD j 0 = z := by simp [List.getD, hz']
      rw [hcell j hj, hzj]
      have hw := hwf z (List.mem_of_getElem? hz')
      have hr : 0 ≤ z ∧ z < 256 := by
        simp [Lit.wf, IntKind.min, IntKind.max, IntKind.signed, IntKind.bits] at hw
        omega
      simp only [Function.comp]
      congr 2
      simp [UInt8.toNat_ofNat']
      omega
    · cases hz'

/-- A block of two cells: what the walk asks. -/
theorem blk2 {w : World} {g : Nat} {t : TypeId} {a b : Value} (h : w.heap[g]? = some (.cells #[a, b] t (0, 0))) :
    w.cell? ⟨g, 0, none⟩ = some a ∧ w.cell? ⟨g, 1, none⟩ = some b ∧ w.frozen? ⟨g, 0, none⟩ = false ∧ w.frozen? ⟨g, 1, none⟩ = false :=
  ⟨blk_cell h 0, blk_cell h 1, blk_frozen h 0, blk_frozen h 1⟩
theorem blk2_set {w : World} {g : Nat} {t : TypeId} {a b : Value} (h : w.heap[g]? = some (.cells #[a, b] t (0, 0))) (a' b' : Value) :
    ((w.setCell ⟨g, 0, none⟩ a').setCell ⟨g, 1, none⟩ b').heap[g]? = some (.cells #[a', b'] t (0, 0)) := by
  have h1 : (w.setCell ⟨g, 0, none⟩ a').heap[g]? = some (.cells #[a', b] t (0, 0)) := by simpa using blk_set h 0 a'
  simpa using blk_set h1 1 b'

/-- Block g's first cells are the bytes l, and may be written. -/
def MB (w : World) (g : Nat) (l : List UInt8) : Prop :=
  g < w.heap.size ∧ ∀ (i : Nat) (b : UInt8), l[i]? = some b → w.cell? ⟨g, i, none⟩ = some (.int .u8 (b.toNat : Int)) ∧ w.frozen? ⟨g, i, none⟩ = false
theorem MB.of_row {w : World} {g : Nat} {l : List UInt8} (h : RowB w g l) : MB w g l := ⟨h.lt, fun i b hi => ⟨h.cell hi, h.frozen i⟩⟩
theorem MB.below {w w1 : World} {B g : Nat} {l : List UInt8} (h : MB w g l) (hb : Below B w w1) (hg : g < B) : MB w1 g l :=
  ⟨Nat.lt_of_lt_of_le h.1 hb.size, fun i b hi => ⟨(hb.cell (p := ⟨g, i, none⟩) hg).trans (h.2 i b hi).1, (hb.frozen (p := ⟨g, i, none⟩) hg).trans (h.2 i b hi).2⟩⟩
theorem MB.set_ {w : World} {g : Nat} {l : List UInt8} (h : MB w g l) (k : Nat) (b : UInt8) (hk : k < l.length) : MB (w.setCell ⟨g, k, none⟩ (.int .u8 (b.toNat : Int))) g (l.set k b) := by
  refine ⟨by simpa [World.setCell] using h.1, fun i c hi => ?_⟩
  by_cases e : k = i
  · subst e
    rw [List.getElem?_set_self hk] at hi
    obtain rfl := Option.some.inj hi
    obtain ⟨h1, h2⟩ := h.2 k l[k] (List.getElem?_eq_getElem hk)
    exact ⟨World.cell?_setCell_same w _ _ (by rw [h1]), by simpa using h2⟩
  · rw [List.getElem?_set_ne e] at hi
    obtain ⟨h1, h2⟩ := h.2 i c hi
    exact ⟨(World.cell?_setCell_other w _ ⟨g, i, none⟩ _ (by intro h; injection h with _ h; exact e h)).trans h1, by simpa using h2⟩
theorem MB.sl {w : World} {g : Nat} {l : List UInt8} (h : MB w g l) {n c : Nat} (hn : l.length = n) (hc : n ≤ c) : Sl w w.heap.size (some ⟨g, 0, none⟩) n c l := by
  subst hn
  refine ⟨⟨by simp [bv_length], fun _ => ⟨_, rfl, h.1, fun j u hu => ?_⟩⟩, rfl, hc, fun h => by cases h⟩
  simp only [bv, List.getElem?_map, Option.map_eq_some_iff] at hu
  obtain ⟨b, hb, rfl⟩ := hu
  rw [Addr.add_lit, Nat.zero_add]
  exact (h.2 j b hb).1
theorem MB.bytes (w : World) (l : List UInt8) : MB (Lib.bytesWorld w 5 ⟨l.toArray⟩) w.heap.size l := by
  refine ⟨by have := Lib.bytesWorld_size w 5 ⟨l.toArray⟩; omega, fun i b hi => ?_⟩
  have hlt := (List.getElem?_eq_some_iff.1 hi).1
  constructor
  · rw [Lib.bytesWorld_cell w _ _ i (by simpa [ByteArray.size] using hlt)]
    simp [List.getD, hi]
  · have := Lib.bytesWorld_at_new w 5 (⟨l.toArray⟩ : ByteArray)
    simp [World.frozen?, this, Lib.bytesCells]
    omega
theorem below_bytes {B : Nat} {w W : World} (h : Below B w W) (hB : B ≤ W.heap.size) (e : TypeId) (s : ByteArray) : Below B w (Lib.bytesWorld W e s) :=
  h.trans ⟨rfl, rfl, rfl, by have := Lib.bytesWorld_size W e s; omega, fun k hk => Lib.bytesWorld_at_old W e s k (by omega)⟩

/-- A slice of whole numbers that came in: what is read of it below its length. -/
def Nums (k : IntKind) (w : World) (B : Nat) (A : Option Addr) (n c : Nat) (zs : List Int) : Prop :=
  zs.length = n ∧ n ≤ c ∧ (A = none → c = 0) ∧ (∀ z ∈ zs, (Lit.int k z).wf = true) ∧ ∀ i z, zs[i]? = some z → ∃ ad, A = some ad ∧ ad.block < B ∧ w.cell? (ad.add i) = some (.int k z)
theorem nums_of_row {k : IntKind} {w : World} {a : Option Addr} {len cap : Nat} {zs : List Int} (h : (a = none ∧ len = 0 ∧ cap = 0 ∧ zs = []) ∨
    ∃ x, a = some x ∧ len ≤ cap ∧ cap ≤ maxLen ∧ zs.length = cap ∧ (∀ i, i < zs.length → w.cell? (x.add i) = some (.int k (zs.getD i 0))) ∧ ∀ n ∈ zs, (Lit.int k n).wf = true) :
    ∃ ys : List Int, Nums k w w.heap.size a len cap ys := by
  rcases h with ⟨rfl, rfl, rfl, rfl⟩ | ⟨x, rfl, hlc, hm, hz, hcell, hwf⟩
  · exact ⟨[], rfl, Nat.le_refl _, fun _ => rfl, by simp, by simp⟩
  · refine ⟨zs.take len, by simp; omega, hlc, (fun h => by cases h), fun z hz => hwf z (List.mem_of_mem_take hz), fun i z hi => ?_⟩
    rw [List.getElem?_take] at hi
    split at hi
    · have hj := (List.getElem?_eq_some_iff.1 hi).1
      have hc := hcell i hj
      have hb := World.block_lt_of_cell? w _ hc
      rw [block_of_add] at hb
      have hzj : zs.getD i 0 = z := by simp [List.getD, hi]
      exact ⟨x, rfl, hb, by rw [hc, hzj]⟩
    · cases hi
theorem Nums.below {k : IntKind} {w w' : World} {B : Nat} {A : Option Addr} {n c : Nat} {zs : List Int} (h : Nums k w B A n c zs) (hb : Below B w w') : Nums k w' B A n c zs :=
  ⟨h.1, h.2.1, h.2.2.1, h.2.2.2.1, fun i z hi => by
    obtain ⟨ad, e, hl, hc⟩ := h.2.2.2.2 i z hi
    exact ⟨ad, e, hl, (hb.cell (p := ad.add i) (by rw [block_of_add]; exact hl)).trans hc⟩⟩

theorem dec_i (k n : Int) : (k < n → decide (k < n) = true) ∧ (¬ k < n → decide (k < n) = false) :=
  ⟨fun h => decide_eq_true h, fun h => decide_eq_false h⟩
theorem dec_n (k n : Nat) : (k < n → decide (k < n) = true) ∧ (¬ k < n → decide (k < n) = false) :=
  ⟨fun h => decide_eq_true h, fun h => decide_eq_false h⟩

theorem Nums.at_ {w : World} {B : Nat} {A : Option Addr} {n c : Nat} {zs : List Int} (h : Nums .u16 w B A n c zs) {k : Nat} (hk : k < n) :
    ∃ (z : Int) (ad : Addr), A = some ad ∧ ad.block < B ∧ w.cell? (ad.add k) = some (.int .u16 z) ∧ 0 ≤ z ∧ z ≤ 65535 := by
  obtain ⟨hl, _, _, hw, hc⟩ := h
  obtain ⟨ad, e, hb, hcell⟩ := hc k zs[k] (List.getElem?_eq_getElem (by omega))
  have hw' := hw zs[k] (List.getElem_mem _)
  simp [Lit.wf, IntKind.min, IntKind.max, IntKind.signed, IntKind.bits] at hw'
  exact ⟨zs[k], ad, e, hb, hcell, by omega, by omega⟩
theorem spoil_idx (z : Int) (n : Nat) (h0 : 0 ≤ z) (hn : 0 < n) : ∃ j : Nat, z.tmod (n : Int) = (j : Int) ∧ j < n := by
  obtain ⟨m, rfl⟩ := Int.eq_ofNat_of_zero_le h0
  exact ⟨m % n, by rw [IntWalk.up_tmod rfl rfl], Nat.mod_lt _ hn⟩

/-- A region that draws its order: all operations ahead of the tail read alone. -/
theorem wp_still_tail {P : Program} {id : Nat} {Q : Exit → Act → World → Prop} {a : Act} {w : World} {l : List Oper} (n : Nat) (hm : P.follows .mixedOrders = true) (hB : Region.lexTailB .any l.toArray n = true)
    (h : wpStill P l.toArray w.drew (fun a' => wpList P l.toArray Q (l.drop n) a' w.drew) (l.take n) a) : (Code.region id l.toArray true).wp P Q a w := wp_region_still_tail n hm hB h

/-- []byte(s): a new block that holds the bytes. -/
theorem bytes_of_st {P : Program} (w : World) (src dst : TypeId) (l : List UInt8) (n : Nat) (hn : l.length = n) {u : TypeDesc} (hs : P.underlying src = some u) (hd : P.underlying dst = some (.slice 5)) (he : P.underlying 5 = some (.int .u8)) :
    ∃ c w', (convert src dst (.string ⟨l.toArray⟩)).run P w = .ok (.slice (some ⟨w.heap.size, 0, none⟩) n c) w' ∧ n ≤ c ∧ MB w' w.heap.size l ∧ Below w.heap.size w w' := by
  have h := Lib.run_convert_string_bytes (P := P) w src dst 5 ⟨l.toArray⟩ hs hd he
  have hsz : (⟨l.toArray⟩ : ByteArray).size = n := by simpa [ByteArray.size] using hn
  rw [hsz] at h
  refine ⟨_, _, h, ?_, MB.bytes w l, below_bytes (Below.refl _ _) (Nat.le_refl _) _ _⟩
  unfold grownCap
  simp [Question.cut]

/-- A row that is owned may be written. -/
theorem MB.of_own {w : World} {base : Nat} {v : Value} {n : Nat} {l : List UInt8} (h : w.ownsRow base 5 1 v n (bv l)) (hn : 0 < n) :
    ∃ g c, v = .slice (some ⟨g, 0, none⟩) n c ∧ MB w g l ∧ n ≤ c ∧ base ≤ g := by
  obtain ⟨h1, h2⟩ := h
  rcases h2 with ⟨_, h0⟩ | ⟨g, cap, cur, hv, hg, hh, hnc, _, _, htk⟩
  · omega
  · refine ⟨g, cap, hv, ⟨blk_lt hh, fun i b hi => ⟨?_, blk_frozen hh i⟩⟩, hnc, hg⟩
    rw [blk_cell hh]
    have hb : (bv l)[i]? = some (.int .u8 (b.toNat : Int)) := by simp [bv, hi]
    rw [← htk, Nat.mul_one, List.getElem?_take] at hb
    split at hb
    · simpa using hb
    · cases hb

end Go.Proofs.Ythijobbhpbklmaa
