/- Lib; DkP; Disk -/
import Derived.Test.YthijobbhpbklmaaProg
import Derived.Below
import Derived.Laws.OwnMore
import Derived.Laws.Rows
import Derived.Maps.AppendAt
import Derived.Deep.AppendLies
import Derived.Deep.Draws
import Derived.RegionTactic
import Derived.OwnWalk
import Derived.WalkKit
import Derived.Lib.Hide
import Derived.KernelRfl
import Derived.Laws.CopyOwn
import Derived.StillTailTactics
import Derived.Lib.ConvBytes
import Derived.WalkSpells
import Derived.Laws.LoneSync
import Derived.Laws.Pointers
import Derived.Defers
set_option linter.unusedVariables false
set_option linter.unusedSimpArgs false
/- Words for memory: slices that are read, rows that are owned, and lists of bytes as cells. Plain lemmas; conditions are stated with each. -/
namespace Go.Proofs.Ythijobbhpbklmaa
open Go.RowKit
theorem block_of_add (a : Addr) (n : Nat) : (a.add n).block = a.block := by unfold Addr.add; split <;> rfl
theorem add_of_add (a : Addr) (i j : Nat) : (a.add i).add j = a.add (i + j) := by
  unfold Addr.add
  by_cases hi : i = 0 <;> by_cases hj : j = 0 <;> simp [hi, hj, Nat.add_assoc]
def Reads (w : World) (B size : Nat) (A : Option Addr) (n : Nat) (xs : List Value) : Prop :=
  xs.length = n * size ∧ (0 < n → ∃ ad, A = some ad ∧ ad.block < B ∧ ∀ j u, xs[j]? = some u → w.cell? (ad.add j) = some u)
section
variable {w w' : World} {B B' size n : Nat} {A : Option Addr} {xs : List Value}
theorem Reads.none_ : Reads w B size A 0 [] := ⟨by simp, fun h => absurd h (by omega)⟩
theorem Reads.at_ {k : Nat} (h : Reads w B 1 A n xs) (hk : k < n) : ∃ ad u, A = some ad ∧ ad.block < B ∧ xs[k]? = some u ∧ w.cell? (ad.add k) = some u := by
  obtain ⟨ad, e, hb, hc⟩ := h.2 (by omega)
  have hl : k < xs.length := by have := h.1; omega
  exact ⟨ad, xs[k], e, hb, List.getElem?_eq_getElem hl, hc k _ (List.getElem?_eq_getElem hl)⟩
theorem Reads.keep (h : Reads w B size A n xs) (hk : ∀ p : Addr, p.block < B → w'.cell? p = w.cell? p) : Reads w' B size A n xs :=
  ⟨h.1, fun hn => by
    obtain ⟨ad, e, hb, hc⟩ := h.2 hn
    exact ⟨ad, e, hb, fun j u hu => (hk _ (by rw [block_of_add]; exact hb)).trans (hc j u hu)⟩⟩
theorem Reads.more (h : Reads w B size A n xs) (hB : B ≤ B') : Reads w B' size A n xs :=
  ⟨h.1, fun hn => by
    obtain ⟨ad, e, hb, hc⟩ := h.2 hn
    exact ⟨ad, e, by omega, hc⟩⟩
theorem Reads.below (h : Reads w B size A n xs) (hb : Below B w w') : Reads w' B size A n xs := h.keep fun _ hp => hb.cell hp
theorem Reads.drew (h : Reads w B size A n xs) : Reads w.drew B size A n xs := h
theorem Reads.drewN (h : Reads w B size A n xs) (k : Nat) : Reads (w.drewN k) B size A n xs := h
theorem Reads.alloc (h : Reads w B size A n xs) (hB : B ≤ w.heap.size) (o : Obj) : Reads (w.alloc o) B size A n xs := h.keep fun p hp => World.cell?_alloc_lt w o p (by omega)
theorem Reads.alloc' (h : Reads w B size A n xs) (o : Obj) : Reads (w.alloc o) B size A n xs :=
  ⟨h.1, fun hn => by
    obtain ⟨ad, e, hb, hc⟩ := h.2 hn
    refine ⟨ad, e, hb, fun j u hu => ?_⟩
    have hcell := hc j u hu
    have hlt := World.block_lt_of_cell? w _ hcell
    exact (World.cell?_alloc_lt w o _ hlt).trans hcell⟩
theorem Reads.setCell (h : Reads w B size A n xs) {p : Addr} (hB : B ≤ p.block) (u : Value) : Reads (w.setCell p u) B size A n xs :=
  h.keep fun q hq => World.cell?_setCell_other w p q u (fun e => by subst e; omega)
theorem Reads.cut (h : Reads w B size A n xs) {k cap : Nat} (hk : k ≤ n) (hc : n ≤ cap) :
    Reads w B size (if cap = k then A else A.map (·.add (k * size))) (n - k) (xs.drop (k * size)) := by
  refine ⟨by rw [List.length_drop, h.1, Nat.sub_mul], fun hn => ?_⟩
  obtain ⟨ad, rfl, hb, hcell⟩ := h.2 (by omega)
  rw [if_neg (by omega)]
  refine ⟨ad.add (k * size), rfl, by rw [block_of_add]; exact hb, fun j u hu => ?_⟩
  rw [add_of_add]
  exact hcell _ u (by rw [← hu, List.getElem?_drop])
theorem Reads.of_own {base : Nat} {e : TypeId} {c : Nat} (h : w.ownsRow base e size (.slice A n c) n xs) : Reads w w.heap.size size A n xs := by
  refine ⟨h.1, fun hn => ?_⟩
  obtain ⟨g, cap, hv, _, hlt⟩ := h.form hn
  have hA : A = some ⟨g, 0, none⟩ := by injection hv
  subst hA
  exact ⟨_, rfl, hlt, h.cells (g := g) rfl⟩
end
theorem below_drewN {B : Nat} {a w : World} (h : Below B a w) (n : Nat) : Below B a (w.drewN n) := ⟨h.os, h.tape, h.output, h.size, h.block⟩
section
variable {P : Program} (w : World)
theorem run_append_of_nil (base : Nat) (t ty e : TypeId) (i : TypeInfo) (size : Nat) (ht : P.underlying t = some (.slice e)) (hi : P.info? e = some i)
    (v : Value) (n : Nat) (xs : List Value) (hown : w.ownsRow base e size v n xs) (c : Nat) : (Builtin.append_ #[t, t] ty #[v, .slice none 0 c]).run P w = .ok v w := by
  rcases hown.2 with ⟨rfl, rfl⟩ | ⟨g, cap, cur, rfl, _, _, hnc, _⟩
  · simp [Builtin.append_, run_underlying ht, sizeOf, typeInfo, hi, Builtin.lenOf, Builtin.firstCells]
  · simp [Builtin.append_, run_underlying ht, sizeOf, typeInfo, hi, Builtin.lenOf, Builtin.firstCells, hnc, storeCells]
theorem run_append_any (base : Nat) (t ty e : TypeId) (i : TypeInfo) (z : Value) (size bytes : Nat) (ht : P.underlying t = some (.slice e)) (hi : P.info? e = some i) (hz : i.zero = some z)
    (hsize : i.size = size) (hby : i.bytes = bytes) (hzs : z.cells.size = size) (hsz : 0 < size)
    (v : Value) (n : Nat) (xs : List Value) (hown : w.ownsRow base e size v n xs)
    (B : Nat) (A : Option Addr) (m c : Nat) (news : List Value) (hr : Reads w B size A m news) (h1 : ∀ u ∈ news, u.oneCell' = true)
    (h63 : n + m ≤ maxLen) (hbytes : (n + m) * bytes ≤ 140737488355328) (hbase : base ≤ w.heap.size) :
    ∃ v' w', (Builtin.append_ #[t, t] ty #[v, .slice A m c]).run P w = .ok v' w' ∧ w'.ownsRow base e size v' (n + m) (xs ++ news) ∧ w.grownBy w' v.ownBlock ∧
      (v'.ownBlock = v.ownBlock ∨ v'.ownBlock = some w.heap.size) := by
  rcases A with _ | ad
  · have hm : m = 0 := by
      rcases Nat.eq_zero_or_pos m with h0 | h0
      · exact h0
      · obtain ⟨ad, h, _⟩ := hr.2 h0
        cases h
    subst hm
    have hn : news = [] := List.eq_nil_of_length_eq_zero (by simpa using hr.1)
    subst hn
    exact ⟨v, w, run_append_of_nil w base t ty e i size ht hi v n xs hown c, by simpa using hown, World.grownBy.refl w _, .inl rfl⟩
  · have hcells : ∀ j u, news[j]? = some u → w.cell? (ad.add j) = some u := by
      intro j u hu
      rcases Nat.eq_zero_or_pos m with h0 | h0
      · subst h0
        have hn : news = [] := List.eq_nil_of_length_eq_zero (by simpa using hr.1)
        subst hn
        simp at hu
      · obtain ⟨ad', h, _, hc⟩ := hr.2 h0
        injection h with h
        subst h
        exact hc j u hu
    obtain ⟨v', w', hrun, h2, h3, _, h5⟩ := run_append_own_at (P := P) w base t ty e i z size bytes ht hi hz hsize hby hzs hsz v n xs hown ad m c news hr.1 hcells h1 h63 hbytes hbase
    exact ⟨v', w', hrun, h2, h3, h5⟩
theorem wp_append_any {o : Oper} {a : Act} {K : Act → World → Prop} {Q : Exit → Act → World → Prop} (s x : Operand) (t : TypeId)
    (ho : o.op = .call { callee := .builtin .append, args := #[s, x], argTypes := #[t, t] })
    (base : Nat) (e : TypeId) (i : TypeInfo) (z : Value) (size bytes : Nat) (ht : P.underlying t = some (.slice e)) (hi : P.info? e = some i) (hz : i.zero = some z)
    (hsize : i.size = size) (hby : i.bytes = bytes) (hzs : z.cells.size = size) (hsz : 0 < size)
    (v : Value) (n : Nat) (xs : List Value) (hs : a.eval s = v) (hown : w.ownsRow base e size v n xs)
    (B : Nat) (A : Option Addr) (m c : Nat) (news : List Value) (hx : a.eval x = .slice A m c) (hr : Reads w B size A m news) (h1 : ∀ u ∈ news, u.oneCell' = true)
    (h63 : n + m ≤ maxLen) (hbytes : (n + m) * bytes ≤ 140737488355328) (hbase : base ≤ w.heap.size)
    (h : ∀ v' w', w'.ownsRow base e size v' (n + m) (xs ++ news) → w.grownBy w' v.ownBlock → (v'.ownBlock = v.ownBlock ∨ v'.ownBlock = some w.heap.size) → K (a.put o.dst v') w') : o.wp P a w K Q := by
  obtain ⟨v', w', hrun, h2, h3, h4⟩ := run_append_any (P := P) w base t o.type e i z size bytes ht hi hz hsize hby hzs hsz v n xs hown B A m c news hr h1 h63 hbytes hbase
  unfold Oper.wp execOp
  simp only [ho, resolve, invoke, builtin, Sem.run_bind, Sem.run_pure, Result.andThen_ok, List.map_toArray, List.map_cons, List.map_nil, hs, hx, hrun]
  exact h v' w' h2 h3 h4
theorem wpList_append_any {ops : Array Oper} {rest : List Oper} {o : Oper} {a : Act} {Q : Exit → Act → World → Prop} (hgd : o.guard = none) (s x : Operand) (t : TypeId)
    (ho : o.op = .call { callee := .builtin .append, args := #[s, x], argTypes := #[t, t] })
    (base : Nat) (e : TypeId) (i : TypeInfo) (z : Value) (size bytes : Nat) (ht : P.underlying t = some (.slice e)) (hi : P.info? e = some i) (hz : i.zero = some z)
    (hsize : i.size = size) (hby : i.bytes = bytes) (hzs : z.cells.size = size) (hsz : 0 < size)
    (v : Value) (n : Nat) (xs : List Value) (hs : a.eval s = v) (hown : w.ownsRow base e size v n xs)
    (B : Nat) (A : Option Addr) (m c : Nat) (news : List Value) (hx : a.eval x = .slice A m c) (hr : Reads w B size A m news) (h1 : ∀ u ∈ news, u.oneCell' = true)
    (h63 : n + m ≤ maxLen) (hbytes : (n + m) * bytes ≤ 140737488355328) (hbase : base ≤ w.heap.size)
    (h : ∀ v' w', w'.ownsRow base e size v' (n + m) (xs ++ news) → w.grownBy w' v.ownBlock → (v'.ownBlock = v.ownBlock ∨ v'.ownBlock = some w.heap.size) → wpList P ops Q rest (a.put o.dst v') w') : wpList P ops Q (o :: rest) a w :=
  wpList_plain hgd fun _ hK => wp_append_any w s x t ho base e i z size bytes ht hi hz hsize hby hzs hsz v n xs hs hown B A m c news hx hr h1 h63 hbytes hbase fun v' w' h2 h3 h4 => hK _ _ (h v' w' h2 h3 h4)
end
theorem own_ne {w : World} {base : Nat} {e t : TypeId} {size n g : Nat} {v : Value} {xs : List Value} {cs : Array Value} (h : w.ownsRow base e size v n xs) (hg : w.heap[g]? = some (.cells cs t (0, 0))) (hne : e ≠ t) : some g ≠ v.ownBlock := by
  rcases h.2 with ⟨rfl, _⟩ | ⟨g', cap, cur, rfl, _, hh, _⟩
  · simp [Value.ownBlock]
  · intro he
    have : g' = g := by simpa [Value.ownBlock] using he.symm
    subst this
    rw [hg] at hh
    injection hh with hh
    injection hh with _ ht
    exact hne ht.symm
theorem blk_lt {w : World} {g : Nat} {o : Obj} (h : w.heap[g]? = some o) : g < w.heap.size := (Array.getElem?_eq_some_iff.1 h).1
theorem blk_cell {w : World} {g : Nat} {t : TypeId} {cs : Array Value} (h : w.heap[g]? = some (.cells cs t (0, 0))) (i : Nat) : w.cell? ⟨g, i, none⟩ = cs[i]? := cell_of_row w g i cs t (0, 0) h
theorem blk_frozen {w : World} {g : Nat} {t : TypeId} {cs : Array Value} (h : w.heap[g]? = some (.cells cs t (0, 0))) (i : Nat) : w.frozen? ⟨g, i, none⟩ = false := by simp [World.frozen?, h]
theorem blk_set {w : World} {g : Nat} {t : TypeId} {cs : Array Value} (h : w.heap[g]? = some (.cells cs t (0, 0))) (i : Nat) (u : Value) : (w.setCell ⟨g, i, none⟩ u).heap[g]? = some (.cells (cs.setIfInBounds i u) t (0, 0)) := by
  simp [World.setCell, Array.getElem?_modify, h]
theorem blk_far {w : World} {g : Nat} {t : TypeId} {cs : Array Value} (h : w.heap[g]? = some (.cells cs t (0, 0))) {p : Addr} (hp : g ≠ p.block) (u : Value) : (w.setCell p u).heap[g]? = some (.cells cs t (0, 0)) := (Below.heap_setCell w p u g hp).trans h
theorem blk_alloc {w : World} {g : Nat} {ob : Obj} (h : w.heap[g]? = some ob) (o : Obj) : (w.alloc o).heap[g]? = some ob := (Below.heap_alloc w o g (blk_lt h)).trans h
theorem blk_below {w w1 : World} {B g : Nat} {o : Obj} (h : w.heap[g]? = some o) (hb : Below B w w1) (hg : g < B) : w1.heap[g]? = some o := (hb.block g hg).trans h
theorem blk_grown {w w1 : World} {g : Nat} {o : Obj} {row : Option Nat} (h : w.heap[g]? = some o) (hg : w.grownBy w1 row) (hne : some g ≠ row) : w1.heap[g]? = some o := (hg.block g (blk_lt h) hne).trans h
theorem own_slice {w : World} {base n : Nat} {e : TypeId} {size : Nat} {v : Value} {xs : List Value} (h : w.ownsRow base e size v n xs) : ∃ A c, v = .slice A n c := by
  rcases h.2 with ⟨rfl, rfl⟩ | ⟨g, cap, cur, rfl, _⟩
  · exact ⟨none, 0, rfl⟩
  · exact ⟨_, _, rfl⟩
theorem own_setCell {w : World} {base : Nat} {e : TypeId} {size n : Nat} {v : Value} {xs : List Value} (h : w.ownsRow base e size v n xs) {p : Addr} (hne : some p.block ≠ v.ownBlock) (u : Value) : (w.setCell p u).ownsRow base e size v n xs := by
  obtain ⟨h1, h2⟩ := h
  refine ⟨h1, ?_⟩
  rcases h2 with h2 | ⟨g, cap, cur, hv, hg, hh, r⟩
  · exact Or.inl h2
  · refine Or.inr ⟨g, cap, cur, hv, hg, ?_, r⟩
    rw [Below.heap_setCell _ _ _ _ (fun e => hne (by rw [hv, ← e]; rfl))]
    exact hh
theorem own_below {w w1 : World} {base B : Nat} {e : TypeId} {size n : Nat} {v : Value} {xs : List Value} (h : w.ownsRow base e size v n xs) (hb : Below B w w1) (hB : w.heap.size ≤ B) : w1.ownsRow base e size v n xs := by
  obtain ⟨h1, h2⟩ := h
  refine ⟨h1, ?_⟩
  rcases h2 with h2 | ⟨g, cap, cur, hv, hg, hh, r⟩
  · exact Or.inl h2
  · exact Or.inr ⟨g, cap, cur, hv, hg, blk_below hh hb (Nat.lt_of_lt_of_le (blk_lt hh) hB), r⟩
theorem Reads.one (w : World) (u : Value) (t : TypeId) : Reads (w.alloc (.cells #[u] t)) (w.heap.size + 1) 1 (some ⟨w.heap.size, 0, none⟩) 1 [u] :=
  ⟨rfl, fun _ => ⟨_, rfl, by simp, cell_one_new w u t⟩⟩
def bv (l : List UInt8) : List Value := l.map fun b => .int .u8 (b.toNat : Int)
theorem bv_length (l : List UInt8) : (bv l).length = l.length := by simp [bv]
theorem bv_one (l : List UInt8) : ∀ u ∈ bv l, u.oneCell' = true := by
  intro u hu
  obtain ⟨_, _, rfl⟩ := List.mem_map.1 hu
  rfl
structure Sl (w : World) (B : Nat) (A : Option Addr) (n c : Nat) (l : List UInt8) : Prop where
  reads : Reads w B 1 A n (bv l)
  len : l.length = n
  cap : n ≤ c
  nil : A = none → c = 0
theorem Sl.below {w w' : World} {B : Nat} {A : Option Addr} {n c : Nat} {l : List UInt8} (h : Sl w B A n c l) (hb : Below B w w') : Sl w' B A n c l := ⟨h.reads.below hb, h.len, h.cap, h.nil⟩
theorem Sl.more {w : World} {B B' : Nat} {A : Option Addr} {n c : Nat} {l : List UInt8} (h : Sl w B A n c l) (hB : B ≤ B') : Sl w B' A n c l := ⟨h.reads.more hB, h.len, h.cap, h.nil⟩
theorem Sl.nil_ (w : World) (B : Nat) : Sl w B none 0 0 [] := ⟨Reads.none_, rfl, Nat.le_refl _, fun _ => rfl⟩
theorem Sl.keep {w w' : World} {B : Nat} {A : Option Addr} {n c : Nat} {l : List UInt8} (h : Sl w B A n c l) (hk : ∀ k, k < B → w'.heap[k]? = w.heap[k]?) : Sl w' B A n c l :=
  ⟨h.reads.keep fun p hp => World.cell?_of_block (hk p.block hp), h.len, h.cap, h.nil⟩
theorem Sl.of_own {w : World} {base : Nat} {e : TypeId} {A : Option Addr} {n c : Nat} {l : List UInt8} (h : w.ownsRow base e 1 (.slice A n c) n (bv l)) : Sl w w.heap.size A n c l := by
  refine ⟨Reads.of_own h, by simpa [bv_length] using h.1, ?_, ?_⟩
  · rcases h.2 with ⟨hv, h0⟩ | ⟨g, cap, cur, hv, _, _, hn, _⟩
    · omega
    · injection hv with _ _ hc; omega
  · rcases h.2 with ⟨hv, h0⟩ | ⟨g, cap, cur, hv, _, _, hn, _⟩
    · injection hv with _ _ hc; intro _; exact hc
    · injection hv with ha _ hc; intro hA; rw [hA] at ha; cases ha
theorem cut_l {P : Program} (t e : TypeId) (kl : IntKind) {i : TypeInfo} (ht : P.underlying t = some (.slice e)) (hi : P.info? e = some i) (hsz : i.size = 1) (A : Option Addr) (n c m : Nat) (hm : m ≤ n) :
    ∃ A' : Option Addr, (∀ W : World, (Instr.slice t (.slice A n c) (some (.int kl (m : Int))) none none).run P W = .ok (.slice A' (n - m) (c - m)) W) ∧
      ∀ (w : World) (B : Nat) (l : List UInt8), Sl w B A n c l → Sl w B A' (n - m) (c - m) (l.drop m) := by
  refine ⟨if c = m then A else A.map (·.add (m * 1)), fun W => ?_, fun w B l h => ⟨?_, by rw [List.length_drop, h.len], by have := h.cap; omega, ?_⟩⟩
  · have hel : P.elem t = e := by simp [Program.elem, ht]
    have hu : P.underlying t = some (.slice (P.elem t)) := by rw [hel]; exact ht
    rw [run_slice_l W t A n c hu kl (m : Int) (Int.natCast_nonneg _) (by omega), hel]
    simp [sizeOf, typeInfo, hi, hsz, sliced, Result.andThen]
  · have := h.reads.cut hm h.cap
    simpa [bv, List.map_drop] using this
  · intro hA
    have := h.nil
    split at hA
    · omega
    · cases A with
      | none => have := this rfl; omega
      | some a => cases hA
def At (g : Nat) (w w' : World) : Prop := w.grownBy w' (some g)
theorem At.refl (g : Nat) (w : World) : At g w w := World.grownBy.refl w _
theorem At.trans {g : Nat} {a b c : World} (h : At g a b) (k : At g b c) : At g a c := World.grownBy.trans h k
theorem At.of_below {g : Nat} {w w' : World} (h : Below w.heap.size w w') : At g w w' := ⟨h.os, h.tape, h.output, h.size, fun i hi _ => h.block i hi⟩
theorem At.setCell {g : Nat} {w w' : World} (h : At g w w') (i : Nat) (u : Value) : At g w (w'.setCell ⟨g, i, none⟩ u) :=
  ⟨h.os, h.tape, h.output, by simpa [World.setCell] using h.size, fun k hk hne => (Below.heap_setCell w' _ u k (fun e => hne (by rw [e]))).trans (h.block k hk hne)⟩
theorem At.drew {g : Nat} {w w' : World} (h : At g w w') : At g w w'.drew := ⟨h.os, h.tape, h.output, h.size, h.block⟩
theorem At.below {g B : Nat} {w w' : World} (h : At g w w') (hg : B ≤ g) (hB : B ≤ w.heap.size) : Below B w w' :=
  ⟨h.os, h.tape, h.output, h.size, fun k hk => h.block k (by omega) (fun e => by injection e with e; omega)⟩
def RowB (w : World) (g : Nat) (l : List UInt8) : Prop := w.heap[g]? = some (.cells (bv l).toArray 5 (0, 0))
theorem RowB.lt {w : World} {g : Nat} {l : List UInt8} (h : RowB w g l) : g < w.heap.size := blk_lt h
theorem RowB.below {w w1 : World} {B g : Nat} {l : List UInt8} (h : RowB w g l) (hb : Below B w w1) (hg : g < B) : RowB w1 g l := blk_below h hb hg
theorem RowB.own {w : World} {g : Nat} {l : List UInt8} (h : RowB w g l) (base : Nat) (hb : base ≤ g) (hm : l.length ≤ 9223372036854775807) :
    w.ownsRow base 5 1 (.slice (some ⟨g, 0, none⟩) l.length l.length) l.length (bv l) :=
  ⟨by simp [bv_length], .inr ⟨g, l.length, (bv l).toArray, rfl, hb, h, Nat.le_refl _, by unfold maxLen; exact hm, by simp [bv_length], by simp [List.take_of_length_le, bv_length]⟩⟩
theorem RowB.cell {w : World} {g : Nat} {l : List UInt8} (h : RowB w g l) {i : Nat} {b : UInt8} (hi : l[i]? = some b) : w.cell? ⟨g, i, none⟩ = some (.int .u8 (b.toNat : Int)) := by
  rw [blk_cell h]
  simp [bv, hi]
theorem RowB.frozen {w : World} {g : Nat} {l : List UInt8} (h : RowB w g l) (i : Nat) : w.frozen? ⟨g, i, none⟩ = false := blk_frozen h i
theorem bv_set (l : List UInt8) (i : Nat) (b : UInt8) : (bv l).set i (.int .u8 (b.toNat : Int)) = bv (l.set i b) := by
  simp [bv, List.map_set]
theorem RowB.set_ {w : World} {g : Nat} {l : List UInt8} (h : RowB w g l) (i : Nat) (b : UInt8) : RowB (w.setCell ⟨g, i, none⟩ (.int .u8 (b.toNat : Int))) g (l.set i b) := by
  have := blk_set h i (.int .u8 (b.toNat : Int))
  unfold RowB
  rw [this, List.setIfInBounds_toArray, bv_set]
theorem RowB.made (w : World) (n : Nat) : RowB (w.alloc (.cells (madeCells (Value.int .u8 0).cells (n * 1)) 5)) w.heap.size (List.replicate n 0) := by
  have h := heap_alloc_new w (.cells (madeCells (Value.int .u8 0).cells (n * 1)) 5)
  unfold RowB
  rw [h]
  congr 2
  apply Array.toList_inj.1
  rw [show (Value.int .u8 0).cells = #[Value.int .u8 0] from rfl, toList_madeCells_one]
  simp [bv]
theorem RowB.sl {w : World} {g : Nat} {l : List UInt8} (h : RowB w g l) (hm : l.length ≤ 9223372036854775807) : Sl w w.heap.size (some ⟨g, 0, none⟩) l.length l.length l :=
  Sl.of_own (h.own 0 (Nat.zero_le _) hm)
theorem foldl_push_u8 (l : List UInt8) : ∀ s : ByteArray, (l.map fun b => (b.toNat : Int)).foldl (fun s n => s.push (UInt8.ofNat n.toNat)) s = ⟨s.data ++ l.toArray⟩ := by
  induction l with
  | nil => intro s; simp
  | cons b l ih =>
    intro s
    simp only [List.map_cons, List.foldl_cons]
    rw [ih]
    simp [ByteArray.push]
theorem string_of_sl {P : Program} {w : World} {src dst : TypeId} {B : Nat} {A : Option Addr} {n c : Nat} {l : List UInt8} (hs : P.underlying src = some (.slice 5)) (he : P.underlying 5 = some (.int .u8)) (hd : P.underlying dst = some .string)
    (h : Sl w B A n c l) : (convert src dst (.slice A n c)).run P w = .ok (.string ⟨l.toArray⟩) w := by
  have hn := h.len
  rcases A with _ | ad
  · have hc := h.nil rfl
    have hn0 : n = 0 := by have := h.cap; omega
    subst hn0
    obtain rfl : l = [] := List.eq_nil_of_length_eq_zero hn
    exact run_convert_bytes_nil w src 5 hs he 0 c dst hd
  · have hl : (loadCells ad n).run P w = .ok ((l.map fun b => (b.toNat : Int)).map (Value.int .u8)).toArray w := by
      have := run_loadCells_list (P := P) w ad ((l.map fun b => (b.toNat : Int)).map (Value.int .u8)) (fun j v hj => by
        obtain ⟨ad', he', _, hc⟩ := h.reads.2 (by
          have := (List.getElem?_eq_some_iff.1 hj).1
          simp at this
          omega)
        injection he' with he'
        subst he'
        exact hc j v (by simpa [bv] using hj))
      simpa [hn] using this
    rw [run_convert_bytes_string w src dst 5 _ n c hs he hd, run_bytesToString w ad n c _ hl]
    rw [foldl_push_u8]
    simp [ByteArray.empty, ByteArray.emptyWithCapacity]
    rfl
theorem wpList_make_bytes {P : Program} (w : World) {ops : Array Oper} {rest : List Oper} {o : Oper} {a : Act} {Q : Exit → Act → World → Prop}
    (hg : o.guard = none) (l c : Operand) (t : TypeId) (hop : o.op = Op.makeSlice t l c) (h1 : P.underlying t = some (.slice 5))
    (hinfo : (P.info? 5).map (fun i => (i.zero, i.size, i.bytes)) = some (some (.int .u8 0), 1, 1))
    (kl kc : IntKind) (N : Int) (hl : a.eval l = .int kl N) (hc : a.eval c = .int kc N) (hN : 0 ≤ N) (b2 : N ≤ 140737488355328)
    (hK : ∀ w', RowB w' w.heap.size (List.replicate N.toNat 0) → Below w.heap.size w w' → wpList P ops Q rest (a.put o.dst (.slice (some ⟨w.heap.size, 0, none⟩) N.toNat N.toNat)) w') :
    wpList P ops Q (o :: rest) a w := by
  obtain ⟨i, h2, h3, h4, h5⟩ := info_parts hinfo
  refine wpList_plain hg fun K hK' => ?_
  have hrun := run_make (P := P) w t 5 i _ h1 h2 h3 kl kc N N hN (Int.le_refl _) (by rw [h5]; omega) (by omega)
  rw [h4] at hrun
  unfold Oper.wp
  simp [execOp, hop, hl, hc, hrun, Result.andThen]
  exact hK' _ _ (hK _ (by simpa using RowB.made w N.toNat) ((Below.refl _ _).alloc (Nat.le_refl _) _))
theorem wpList_make_bytesN {P : Program} (w : World) {ops : Array Oper} {rest : List Oper} {o : Oper} {a : Act} {Q : Exit → Act → World → Prop}
    (hg : o.guard = none) (l c : Operand) (t : TypeId) (hop : o.op = Op.makeSlice t l c) (h1 : P.underlying t = some (.slice 5))
    (hinfo : (P.info? 5).map (fun i => (i.zero, i.size, i.bytes)) = some (some (.int .u8 0), 1, 1))
    (kl kc : IntKind) (N : Int) (hl : a.eval l = .int kl N) (hc : a.eval c = .int kc N) (n : Nat) (hN : (n : Int) = N) (b2 : n ≤ 140737488355328)
    (hK : ∀ w', RowB w' w.heap.size (List.replicate n 0) → Below w.heap.size w w' → wpList P ops Q rest (a.put o.dst (.slice (some ⟨w.heap.size, 0, none⟩) n n)) w') :
    wpList P ops Q (o :: rest) a w := by
  subst hN
  refine wpList_make_bytes w hg l c t hop h1 hinfo kl kc _ hl hc (by omega) (by omega) ?_
  simpa using hK
theorem RowB.slN {w : World} {g : Nat} {l : List UInt8} (h : RowB w g l) {n : Nat} (hn : l.length = n) (hm : n ≤ 9223372036854775807) : Sl w w.heap.size (some ⟨g, 0, none⟩) n n l := by
  subst hn
  exact h.sl hm
theorem Sl.lit (w : World) (l : List UInt8) (C : Array Value) (hC : C = (bv l).toArray) (n : Nat) (hn : l.length = n) (fr : Nat × Nat) : Sl (w.alloc (.cells C 5 fr)) (w.heap.size + 1) (some ⟨w.heap.size, 0, none⟩) n n l := by
  subst hC hn
  refine ⟨⟨by simp [bv_length], fun _ => ⟨_, rfl, by simp, fun j u hu => ?_⟩⟩, rfl, Nat.le_refl _, fun h => by cases h⟩
  rw [Addr.add_lit, Nat.zero_add, cell_of_row _ _ _ _ _ fr (heap_alloc_new w _)]
  simpa using hu
theorem sl_of_row {w : World} {a : Option Addr} {len cap : Nat} {zs : List Int} (h : (a = none ∧ len = 0 ∧ cap = 0 ∧ zs = []) ∨
    ∃ x, a = some x ∧ len ≤ cap ∧ cap ≤ maxLen ∧ zs.length = cap ∧ (∀ i, i < zs.length → w.cell? (x.add i) = some (.int .u8 (zs.getD i 0))) ∧ ∀ n ∈ zs, (Lit.int .u8 n).wf = true) :
    ∃ l : List UInt8, Sl w w.heap.size a len cap l := by
  rcases h with ⟨rfl, rfl, rfl, rfl⟩ | ⟨x, rfl, hlc, hm, hz, hcell, hwf⟩
  · exact ⟨[], Sl.nil_ _ _⟩
  · refine ⟨(zs.take len).map fun z => UInt8.ofNat z.toNat, ⟨⟨by simp [bv]; omega, fun hn => ?_⟩, by simp; omega, hlc, fun h => by cases h⟩⟩
    have h0 := hcell 0 (by omega)
    have hb := World.block_lt_of_cell? w _ h0
    rw [block_of_add] at hb
    refine ⟨x, rfl, hb, fun j u hu => ?_⟩
    simp only [bv, List.map_map, List.getElem?_map, Option.map_eq_some_iff] at hu
    obtain ⟨z, hz', rfl⟩ := hu
    rw [List.getElem?_take] at hz'
    split at hz'
    · have hj := (List.getElem?_eq_some_iff.1 hz').1
      have hzj : zs.getD j 0 = z := by simp [List.getD, hz']
      rw [hcell j hj, hzj]
      have hw := hwf z (List.mem_of_getElem? hz')
      have hr : 0 ≤ z ∧ z < 256 := by
        simp [Lit.wf, IntKind.min, IntKind.max, IntKind.signed, IntKind.bits] at hw
        omega
      simp only [Function.comp]
      congr 2
      simp [UInt8.toNat_ofNat']
      omega
    · cases hz'
theorem blk2 {w : World} {g : Nat} {t : TypeId} {a b : Value} (h : w.heap[g]? = some (.cells #[a, b] t (0, 0))) :
    w.cell? ⟨g, 0, none⟩ = some a ∧ w.cell? ⟨g, 1, none⟩ = some b ∧ w.frozen? ⟨g, 0, none⟩ = false ∧ w.frozen? ⟨g, 1, none⟩ = false :=
  ⟨blk_cell h 0, blk_cell h 1, blk_frozen h 0, blk_frozen h 1⟩
def MB (w : World) (g : Nat) (l : List UInt8) : Prop :=
  g < w.heap.size ∧ ∀ (i : Nat) (b : UInt8), l[i]? = some b → w.cell? ⟨g, i, none⟩ = some (.int .u8 (b.toNat : Int)) ∧ w.frozen? ⟨g, i, none⟩ = false
theorem MB.of_row {w : World} {g : Nat} {l : List UInt8} (h : RowB w g l) : MB w g l := ⟨h.lt, fun i b hi => ⟨h.cell hi, h.frozen i⟩⟩
theorem MB.below {w w1 : World} {B g : Nat} {l : List UInt8} (h : MB w g l) (hb : Below B w w1) (hg : g < B) : MB w1 g l :=
  ⟨Nat.lt_of_lt_of_le h.1 hb.size, fun i b hi => ⟨(hb.cell (p := ⟨g, i, none⟩) hg).trans (h.2 i b hi).1, (hb.frozen (p := ⟨g, i, none⟩) hg).trans (h.2 i b hi).2⟩⟩
theorem MB.set_ {w : World} {g : Nat} {l : List UInt8} (h : MB w g l) (k : Nat) (b : UInt8) (hk : k < l.length) : MB (w.setCell ⟨g, k, none⟩ (.int .u8 (b.toNat : Int))) g (l.set k b) := by
  refine ⟨by simpa [World.setCell] using h.1, fun i c hi => ?_⟩
  by_cases e : k = i
  · subst e
    rw [List.getElem?_set_self hk] at hi
    obtain rfl := Option.some.inj hi
    obtain ⟨h1, h2⟩ := h.2 k l[k] (List.getElem?_eq_getElem hk)
    exact ⟨World.cell?_setCell_same w _ _ (by rw [h1]), by simpa using h2⟩
  · rw [List.getElem?_set_ne e] at hi
    obtain ⟨h1, h2⟩ := h.2 i c hi
    exact ⟨(World.cell?_setCell_other w _ ⟨g, i, none⟩ _ (by intro h; injection h with _ h; exact e h)).trans h1, by simpa using h2⟩
theorem MB.sl {w : World} {g : Nat} {l : List UInt8} (h : MB w g l) {n c : Nat} (hn : l.length = n) (hc : n ≤ c) : Sl w w.heap.size (some ⟨g, 0, none⟩) n c l := by
  subst hn
  refine ⟨⟨by simp [bv_length], fun _ => ⟨_, rfl, h.1, fun j u hu => ?_⟩⟩, rfl, hc, fun h => by cases h⟩
  simp only [bv, List.getElem?_map, Option.map_eq_some_iff] at hu
  obtain ⟨b, hb, rfl⟩ := hu
  rw [Addr.add_lit, Nat.zero_add]
  exact (h.2 j b hb).1
theorem MB.bytes (w : World) (l : List UInt8) : MB (Lib.bytesWorld w 5 ⟨l.toArray⟩) w.heap.size l := by
  refine ⟨by have := Lib.bytesWorld_size w 5 ⟨l.toArray⟩; omega, fun i b hi => ?_⟩
  have hlt := (List.getElem?_eq_some_iff.1 hi).1
  constructor
  · rw [Lib.bytesWorld_cell w _ _ i (by simpa [ByteArray.size] using hlt)]
    simp [List.getD, hi]
  · have := Lib.bytesWorld_at_new w 5 (⟨l.toArray⟩ : ByteArray)
    simp [World.frozen?, this, Lib.bytesCells]
    omega
theorem MB.of_own {w : World} {base : Nat} {v : Value} {n : Nat} {l : List UInt8} (h : w.ownsRow base 5 1 v n (bv l)) (hn : 0 < n) :
    ∃ g c, v = .slice (some ⟨g, 0, none⟩) n c ∧ MB w g l ∧ n ≤ c ∧ base ≤ g := by
  obtain ⟨h1, h2⟩ := h
  rcases h2 with ⟨_, h0⟩ | ⟨g, cap, cur, hv, hg, hh, hnc, _, _, htk⟩
  · omega
  · refine ⟨g, cap, hv, ⟨blk_lt hh, fun i b hi => ⟨?_, blk_frozen hh i⟩⟩, hnc, hg⟩
    rw [blk_cell hh]
    have hb : (bv l)[i]? = some (.int .u8 (b.toNat : Int)) := by simp [bv, hi]
    rw [← htk, Nat.mul_one, List.getElem?_take] at hb
    split at hb
    · simpa using hb
    · cases hb
end Go.Proofs.Ythijobbhpbklmaa

/- Layer 3: the disk, by values (plain). -/
namespace Go.Proofs.Ythijobbhpbklmaa
structure Dk where
  size : Nat
  limit : Nat
  good : List (List UInt8)
  loose : List (Nat × List UInt8)
  fails : Int
  calls : Nat
structure Dk.OK (D : Dk) : Prop where
  s1 : 512 ≤ D.size
  s2 : D.size ≤ 4096
  s3 : D.size % 128 = 0
  l1 : 1 ≤ D.limit
  l2 : D.limit ≤ 65536
  g1 : D.good.length ≤ D.limit
  g2 : ∀ r ∈ D.good, r.length = D.size
  o1 : ∀ x ∈ D.loose, x.1 < D.good.length ∧ x.2.length = D.size
  f1 : -1 ≤ D.fails
  f2 : D.fails ≤ 9223372036854775807
def zeros (n : Nat) : List UInt8 := List.replicate n 0
theorem zeros_length (n : Nat) : (zeros n).length = n := by simp [zeros]
def dNew (size limit : Nat) : Dk := ⟨size, limit, [], [], -1, 0⟩
def Dk.count (D : Dk) : Dk := { D with calls := D.calls + 1, fails := if D.fails = -1 then -1 else D.fails - 1 }
def Dk.err (D : Dk) : Int := if D.fails = 0 then 20 else 0
theorem Dk.OK.count {D : Dk} (h : D.OK) : D.count.OK :=
  ⟨h.s1, h.s2, h.s3, h.l1, h.l2, h.g1, h.g2, h.o1, by
    have := h.f1
    show -1 ≤ (if D.fails = -1 then -1 else D.fails - 1)
    split <;> omega, by
    have := h.f1
    have := h.f2
    show (if D.fails = -1 then -1 else D.fails - 1) ≤ 9223372036854775807
    split <;> omega⟩
def Dk.grown (D : Dk) (n : Nat) : Dk := { D with good := D.good ++ List.replicate (n - D.good.length) (zeros D.size) }
def lookIn : List (Nat × List UInt8) → Nat → List UInt8 → List UInt8
  | [], _, b => b
  | x :: l, i, b => lookIn l i (if x.1 = i then x.2 else b)
def Dk.look (D : Dk) (i : Nat) : List UInt8 := lookIn D.loose i (D.good.getD i [])
theorem lookIn_snoc (l : List (Nat × List UInt8)) (x : Nat × List UInt8) (i : Nat) (b : List UInt8) : lookIn (l ++ [x]) i b = if x.1 = i then x.2 else lookIn l i b := by
  induction l generalizing b with
  | nil => rfl
  | cons y l ih => exact ih _
def Dk.written (D : Dk) (i : Nat) (b : List UInt8) : Dk := { D with loose := D.loose ++ [(i, b)] }
def laid : List (List UInt8) → List (Nat × List UInt8) → List (List UInt8)
  | g, [] => g
  | g, x :: l => laid (g.set x.1 x.2) l
theorem laid_length (l : List (Nat × List UInt8)) : ∀ g : List (List UInt8), (laid g l).length = g.length := by
  induction l with
  | nil => intro g; rfl
  | cons x l ih => intro g; rw [laid, ih]; simp
theorem laid_snoc (l : List (Nat × List UInt8)) (x : Nat × List UInt8) : ∀ g, laid g (l ++ [x]) = (laid g l).set x.1 x.2 := by
  induction l with
  | nil => intro g; rfl
  | cons y l ih => intro g; exact ih _
def Dk.synced (D : Dk) : Dk := { D with good := laid D.good D.loose, loose := [] }
def Dk.failed (D : Dk) (after : Int) : Dk := { D with fails := if after < -1 then -1 else after }
def pickB (pick : UInt8) (k : Nat) : Bool := (pick.toNat >>> (k / 128 % 8)) % 2 == 1
def mixTo (pick : UInt8) (old new : List UInt8) (s : Nat) : List UInt8 := (List.range old.length).map fun k => if k < s * 128 ∧ pickB pick k = true then new.getD k 0 else old.getD k 0
def mixed (pick : UInt8) (old new : List UInt8) : List UInt8 := mixTo pick old new (old.length / 128)
theorem mixTo_length (pick : UInt8) (old new : List UInt8) (s : Nat) : (mixTo pick old new s).length = old.length := by simp [mixTo]
theorem mixTo_zero (pick : UInt8) (old new : List UInt8) : mixTo pick old new 0 = old := by
  apply List.ext_getElem?
  intro i
  by_cases h : i < old.length
  · simp [mixTo, List.getElem?_range h, List.getElem?_eq_getElem h, List.getD]
  · rw [List.getElem?_eq_none (by rw [mixTo_length]; omega), List.getElem?_eq_none (by omega)]
theorem mixTo_skip (pick : UInt8) (old new : List UInt8) (s : Nat) (h : pickB pick (s * 128) = false) : mixTo pick old new (s + 1) = mixTo pick old new s := by
  unfold mixTo
  apply List.map_congr_left
  intro k _
  have e : k < (s + 1) * 128 ∧ pickB pick k = true ↔ k < s * 128 ∧ pickB pick k = true := by
    constructor
    · rintro ⟨h1, h2⟩
      refine ⟨?_, h2⟩
      rcases Nat.lt_or_ge k (s * 128) with h3 | h3
      · exact h3
      · have : k / 128 = s * 128 / 128 := by omega
        unfold pickB at h h2
        rw [this] at h2
        rw [h2] at h
        cases h
    · rintro ⟨h1, h2⟩
      exact ⟨by omega, h2⟩
  simp only [e]
theorem mixTo_take (pick : UInt8) (old new : List UInt8) (s : Nat) (hn : new.length = old.length) (hs : (s + 1) * 128 ≤ old.length) (h : pickB pick (s * 128) = true) :
    mixTo pick old new (s + 1) = splice (mixTo pick old new s) (s * 128) ((new.drop (s * 128)).take 128) := by
  have hsl : ((new.drop (s * 128)).take 128).length = 128 := by rw [List.length_take, List.length_drop]; omega
  have hml := mixTo_length pick old new s
  unfold splice
  apply List.ext_getElem?
  intro i
  by_cases hi : i < old.length
  · have h1 : (mixTo pick old new (s + 1))[i]? = some (if i < (s + 1) * 128 ∧ pickB pick i = true then new.getD i 0 else old.getD i 0) := by
      simp [mixTo, List.getElem?_range hi]
    have h2 : (mixTo pick old new s)[i]? = some (if i < s * 128 ∧ pickB pick i = true then new.getD i 0 else old.getD i 0) := by
      simp [mixTo, List.getElem?_range hi]
    rw [h1]
    have hl1 : ((mixTo pick old new s).take (s * 128)).length = s * 128 := by rw [List.length_take, hml]; omega
    by_cases c1 : i < s * 128
    · rw [List.getElem?_append_left (by rw [hl1]; exact c1), List.getElem?_take, if_pos c1, h2]
      have : i < (s + 1) * 128 := by omega
      simp [c1, this]
    · rw [List.getElem?_append_right (by rw [hl1]; omega), hl1]
      by_cases c2 : i < s * 128 + 128
      · rw [List.getElem?_append_left (by rw [hsl]; omega), List.getElem?_take, if_pos (show i - s * 128 < 128 by omega), List.getElem?_drop]
        have hp : pickB pick i = true := by
          have : i / 128 = s * 128 / 128 := by omega
          unfold pickB at h ⊢
          rw [this]
          exact h
        rw [show s * 128 + (i - s * 128) = i by omega, List.getElem?_eq_getElem (show i < new.length by omega), if_pos (show i < (s + 1) * 128 ∧ pickB pick i = true from ⟨by omega, hp⟩)]
        simp [List.getD, List.getElem?_eq_getElem (show i < new.length by omega)]
      · rw [List.getElem?_append_right (by rw [hsl]; omega), hsl, List.getElem?_drop]
        rw [show s * 128 + 128 + (i - s * 128 - 128) = i by omega, h2]
        have e1 : ¬ i < (s + 1) * 128 := by omega
        simp [c1, e1]
  · rw [List.getElem?_eq_none (by rw [mixTo_length]; omega), List.getElem?_eq_none (by
      rw [List.length_append, List.length_append, List.length_take, List.length_drop, hsl, hml]; omega)]
def crashed : List (List UInt8) → List (Nat × List UInt8) → List UInt8 → List (List UInt8)
  | g, x :: l, p :: ps => crashed (g.set x.1 (mixed p (g.getD x.1 []) x.2)) l ps
  | g, _, _ => g
def Dk.crash (D : Dk) (picks : List UInt8) : Dk := { D with good := crashed D.good D.loose picks, loose := [], fails := -1 }
theorem crashed_length (l : List (Nat × List UInt8)) : ∀ (ps : List UInt8) (g : List (List UInt8)), (crashed g l ps).length = g.length := by
  induction l with
  | nil => intro ps g; cases ps <;> rfl
  | cons x l ih =>
    intro ps g
    cases ps with
    | nil => rfl
    | cons p ps => rw [crashed, ih]; simp
end Go.Proofs.Ythijobbhpbklmaa

/- Layer 3: the disk in memory; New, Size, Len, Limit, Loose, Calls, count, Fail, there. -/
namespace Go.Proofs.Ythijobbhpbklmaa
open Go.RowKit
theorem info_u8 : (Try.prog.info? 5).map (fun i => (i.zero, i.size, i.bytes)) = some (some (.int .u8 0), 1, 1) := by kernel_rfl
theorem clone_any (w : World) (B : Nat) (A : Option Addr) (n c : Nat) (l : List UInt8) (h : Sl w B A n c l) (hn : n ≤ 140737488355328) :
    Calls Try.prog 58 #[.slice A n c] w fun e w' => ∃ v, e = .returned v ∧ w'.ownsRow w.heap.size 5 1 v n (bv l) ∧ Below w.heap.size w w' := by
  obtain ⟨i0, hi0, hz0, hz1, hz2⟩ := info_parts info_u8
  have q := fun (w : World) (a : Option Addr) (n c n' c' : Nat) => Lib.run_eql_slice_nil (P := Try.prog) w _ _ a n c n' c' Try.underlying30
  rcases A with _ | ad
  · have hc := h.nil rfl
    have hn0 : n = 0 := by have := h.cap; omega
    subst hc hn0
    have hl : l = [] := List.eq_nil_of_length_eq_zero h.len
    subst hl
    clear h hn
    go_enter Try.func58, Try.ntmps58
    go_wp2
    go_ret
    exact ⟨_, rfl, World.ownsRow_nil _ _ _ _, Below.refl _ _⟩
  · have hr := h.reads
    clear h
    go_enter Try.func58, Try.ntmps58
    go_wp2_with (first | (at_builtin; refine wpList_append_any _ rfl (.tmp 5) (.tmp 6) _ rfl w.heap.size 5 i0 _ 1 1 Try.underlying30 hi0 hz0 hz1 hz2 rfl (by omega) _ 0 [] rfl (World.ownsRow_made w #[] 0 (Nat.le_refl _) (by simp [maxLen]) rfl) B (some ad) n c _ rfl (hr.alloc' _) (bv_one l) (by simp only [maxLen]; omega) (by omega) (by simp) ?_))
    intro v w1 hown hg hat
    go_wp2
    go_ret
    exact ⟨v, rfl, by simpa using hown, ((Below.refl _ _).alloc (Nat.le_refl _) _).grown hg (by simp) (fun k hk => by simp [Value.ownBlock] at hk; omega)⟩
def PgAt (w : World) (ok : Nat → Prop) (v : Value) (l : List UInt8) : Prop :=
  ∃ (g off c : Nat) (C : Array Value) (fr : Nat × Nat), v = .slice (some ⟨g, off, none⟩) l.length c ∧ l.length ≤ c ∧ ok g ∧ w.heap[g]? = some (.cells C 5 fr) ∧ ∀ i b, l[i]? = some b → C[off + i]? = some (.int .u8 (b.toNat : Int))
theorem PgAt.keep {w w' : World} {ok ok' : Nat → Prop} {v : Value} {l : List UInt8} (h : PgAt w ok v l) (hk : ∀ (g : Nat) (C : Array Value) (fr : Nat × Nat), ok g → w.heap[g]? = some (.cells C 5 fr) → w'.heap[g]? = w.heap[g]? ∧ ok' g) : PgAt w' ok' v l := by
  obtain ⟨g, off, c, C, fr, h1, h2, h3, h4, h5⟩ := h
  exact ⟨g, off, c, C, fr, h1, h2, (hk g C fr h3 h4).2, (hk g C fr h3 h4).1.trans h4, h5⟩
theorem add_plain (g j i : Nat) : (⟨g, j, none⟩ : Addr).add i = ⟨g, j + i, none⟩ := by
  unfold Addr.add
  split
  · rename_i h
    subst h
    rfl
  · rfl
theorem PgAt.sl {w : World} {ok : Nat → Prop} {v : Value} {l : List UInt8} (h : PgAt w ok v l) : ∃ A c, v = .slice A l.length c ∧ Sl w w.heap.size A l.length c l := by
  obtain ⟨g, off, c, C, fr, rfl, h2, h3, h4, h5⟩ := h
  refine ⟨_, c, rfl, ⟨⟨by simp [bv_length], fun _ => ⟨_, rfl, blk_lt h4, fun j u hu => ?_⟩⟩, rfl, h2, fun h => by cases h⟩⟩
  simp only [bv, List.getElem?_map, Option.map_eq_some_iff] at hu
  obtain ⟨b, hb, rfl⟩ := hu
  rw [add_plain]
  exact (cell_of_row w g _ C _ fr h4).trans (h5 j b hb)
theorem PgAt.of_own {w : World} {base : Nat} {v : Value} {n : Nat} {l : List UInt8} {ok : Nat → Prop} (h : w.ownsRow base 5 1 v n (bv l)) (hn : 0 < n) (hok : ∀ k, base ≤ k → ok k) : PgAt w ok v l := by
  have hl : l.length = n := by have := h.1; simp [bv_length] at this; exact this
  subst hl
  rcases h.2 with ⟨_, h0⟩ | ⟨g, cap, cur, hv, hg, hh, hnc, hcm, hsz, htk⟩
  · omega
  · refine ⟨g, 0, cap, cur, (0, 0), hv, hnc, hok g hg, hh, fun i b hb => ?_⟩
    have hi := (List.getElem?_eq_some_iff.1 hb).1
    have e : (bv l)[i]? = some (.int .u8 (b.toNat : Int)) := by simp [bv, hb]
    rw [← htk, Nat.mul_one, List.getElem?_take, if_pos hi] at e
    rw [Nat.zero_add]
    simpa using e
theorem PgAt.of_row {w : World} {g n : Nat} {l : List UInt8} {ok : Nat → Prop} (h : RowB w g l) (hn : l.length = n) (hok : ok g) : PgAt w ok (.slice (some ⟨g, 0, none⟩) n n) l := by
  subst hn
  exact ⟨g, 0, _, _, (0, 0), rfl, Nat.le_refl _, hok, h, fun i b hb => by simp [bv, hb]⟩
theorem PgAt.len {w : World} {ok : Nat → Prop} {v : Value} {l : List UInt8} (h : PgAt w ok v l) : ∃ A c, v = .slice (some A) l.length c ∧ l.length ≤ c := by
  obtain ⟨g, off, c, C, fr, h1, h2, _⟩ := h
  exact ⟨_, c, h1, h2⟩
def DBlk (w : World) (p : Nat) (s l : Nat) (G L : Value) (fa : Int) (ca : Nat) (dn : Int) (Z : Value) : Prop :=
  w.heap[p]? = some (.cells #[.int .i64 (s : Int), .int .i64 (l : Int), G, L, .int .i64 fa, .int .i64 (ca : Int), .int .u32 dn, .int .i32 0, .int .u32 0, Z] 123 (0, 0))
section
variable {w w' : World} {p s l ca : Nat} {G L Z : Value} {fa dn : Int}
theorem DBlk.cells (h : DBlk w p s l G L fa ca dn Z) : w.cell? ⟨p, 0, none⟩ = some (.int .i64 (s : Int)) ∧ w.cell? ⟨p, 1, none⟩ = some (.int .i64 (l : Int)) ∧ w.cell? ⟨p, 2, none⟩ = some G ∧ w.cell? ⟨p, 3, none⟩ = some L ∧
    w.cell? ⟨p, 4, none⟩ = some (.int .i64 fa) ∧ w.cell? ⟨p, 5, none⟩ = some (.int .i64 (ca : Int)) ∧ w.cell? ⟨p, 6, none⟩ = some (.int .u32 dn) ∧ w.cell? ⟨p, 7, none⟩ = some (.int .i32 0) ∧ w.cell? ⟨p, 8, none⟩ = some (.int .u32 0) ∧ w.cell? ⟨p, 9, none⟩ = some Z :=
  ⟨blk_cell h 0, blk_cell h 1, blk_cell h 2, blk_cell h 3, blk_cell h 4, blk_cell h 5, blk_cell h 6, blk_cell h 7, blk_cell h 8, blk_cell h 9⟩
theorem DBlk.free (h : DBlk w p s l G L fa ca dn Z) (i : Nat) : w.frozen? ⟨p, i, none⟩ = false := blk_frozen h i
theorem DBlk.set2 (h : DBlk w p s l G L fa ca dn Z) (G' : Value) : DBlk (w.setCell ⟨p, 2, none⟩ G') p s l G' L fa ca dn Z := by unfold DBlk; simpa using blk_set h 2 G'
theorem DBlk.set3 (h : DBlk w p s l G L fa ca dn Z) (L' : Value) : DBlk (w.setCell ⟨p, 3, none⟩ L') p s l G L' fa ca dn Z := by unfold DBlk; simpa using blk_set h 3 L'
theorem DBlk.set4 (h : DBlk w p s l G L fa ca dn Z) (fa' : Int) : DBlk (w.setCell ⟨p, 4, none⟩ (.int .i64 fa')) p s l G L fa' ca dn Z := by unfold DBlk; simpa using blk_set h 4 (.int .i64 fa')
theorem DBlk.set5 (h : DBlk w p s l G L fa ca dn Z) (ca' : Nat) : DBlk (w.setCell ⟨p, 5, none⟩ (.int .i64 (ca' : Int))) p s l G L fa ca' dn Z := by unfold DBlk; simpa using blk_set h 5 (.int .i64 (ca' : Int))
theorem DBlk.lt (h : DBlk w p s l G L fa ca dn Z) : p < w.heap.size := blk_lt h
end
def GRow (w : World) (base : Nat) (ok : Nat → Prop) (G : Value) (good : List (List UInt8)) : Prop :=
  ∃ (A : Option Addr) (c : Nat) (cs : List Value), G = .slice A good.length c ∧ w.ownsRow base 30 1 G good.length cs ∧ (∀ k, G.ownBlock = some k → ok k) ∧ ∀ (i : Nat) (l : List UInt8), good[i]? = some l → ∃ v : Value, cs[i]? = some v ∧ PgAt w ok v l
def LRow (w : World) (base : Nat) (ok : Nat → Prop) (L : Value) (loose : List (Nat × List UInt8)) : Prop :=
  ∃ (A : Option Addr) (c : Nat) (cs : List Value), L = .slice A loose.length c ∧ w.ownsRow base 129 2 L loose.length cs ∧ (∀ k, L.ownBlock = some k → ok k) ∧ ∀ (i : Nat) (x : Nat × List UInt8), loose[i]? = some x → ∃ v : Value, cs[i * 2]? = some (.int .i64 (x.1 : Int)) ∧ cs[i * 2 + 1]? = some v ∧ PgAt w ok v x.2
structure DAt (w : World) (base : Nat) (ok : Nat → Prop) (p : Nat) (D : Dk) (G L : Value) (dn : Int) (Z : Value) : Prop where
  blk : DBlk w p D.size D.limit G L D.fails D.calls dn Z
  bp : base ≤ p
  okp : ok p
  good : GRow w base ok G D.good
  loose : LRow w base ok L D.loose
  zer : dn = 0 ∨ (dn = 1 ∧ PgAt w ok Z (zeros D.size))
  wf : D.OK
  cb : D.calls ≤ 1000000000
def DiskAt (w : World) (base : Nat) (ok : Nat → Prop) (p : Nat) (D : Dk) : Prop := ∃ G L dn Z, DAt w base ok p D G L dn Z
def Fr (ok : Nat → Prop) (w w' : World) : Prop := w'.os = w.os ∧ w'.tape = w.tape ∧ w'.output = w.output ∧ w.heap.size ≤ w'.heap.size ∧ ∀ k, k < w.heap.size → ¬ ok k → w'.heap[k]? = w.heap[k]?
theorem Fr.refl (ok : Nat → Prop) (w : World) : Fr ok w w := ⟨rfl, rfl, rfl, Nat.le_refl _, fun _ _ _ => rfl⟩
theorem Fr.trans {ok : Nat → Prop} {a b c : World} (h : Fr ok a b) (k : Fr ok b c) : Fr ok a c :=
  ⟨k.1.trans h.1, k.2.1.trans h.2.1, k.2.2.1.trans h.2.2.1, Nat.le_trans h.2.2.2.1 k.2.2.2.1, fun i hi ho => (k.2.2.2.2 i (Nat.lt_of_lt_of_le hi h.2.2.2.1) ho).trans (h.2.2.2.2 i hi ho)⟩
theorem Fr.of_below {ok : Nat → Prop} {w w' : World} (h : Below w.heap.size w w') : Fr ok w w' := ⟨h.os, h.tape, h.output, h.size, fun i hi _ => h.block i hi⟩
theorem Fr.of_at {ok : Nat → Prop} {g : Nat} {w w' : World} (h : At g w w') (hg : ok g) : Fr ok w w' := ⟨h.os, h.tape, h.output, h.size, fun i hi ho => h.block i hi (fun e => ho (by injection e with e; rw [e]; exact hg))⟩
theorem Fr.of_grown {ok : Nat → Prop} {row : Option Nat} {w w' : World} (h : w.grownBy w' row) (hg : ∀ k, row = some k → ok k) : Fr ok w w' := ⟨h.os, h.tape, h.output, h.size, fun i hi ho => h.block i hi (fun e => ho (hg i e.symm))⟩
theorem Fr.size {ok : Nat → Prop} {w w' : World} (h : Fr ok w w') : w.heap.size ≤ w'.heap.size := h.2.2.2.1
theorem Fr.below {ok : Nat → Prop} {w w' : World} {B : Nat} (h : Fr ok w w') (hB : B ≤ w.heap.size) (ho : ∀ k, k < B → ¬ ok k) : Below B w w' :=
  ⟨h.1, h.2.1, h.2.2.1, h.size, fun k hk => h.2.2.2.2 k (by omega) (ho k hk)⟩
theorem Fr.set {ok : Nat → Prop} {w w' : World} (h : Fr ok w w') {p : Nat} (hp : ok p) (i : Nat) (u : Value) : Fr ok w (w'.setCell ⟨p, i, none⟩ u) := by
  refine ⟨h.1, h.2.1, h.2.2.1, by simpa [World.setCell] using h.size, fun k hk ho => ?_⟩
  rw [Below.heap_setCell _ _ _ _ (fun e => ho (by rw [e]; exact hp))]
  exact h.2.2.2.2 k hk ho
theorem Fr.drew {ok : Nat → Prop} {w w' : World} (h : Fr ok w w') : Fr ok w w'.drew := h
section
variable {w w' : World} {base : Nat} {ok : Nat → Prop} {p : Nat}
theorem own_at_ {e : TypeId} {size n : Nat} {v : Value} {xs : List Value} (h : w.ownsRow base e size v n xs) (hk : ∀ (g : Nat) (C : Array Value), v.ownBlock = some g → w.heap[g]? = some (.cells C e (0, 0)) → w'.heap[g]? = w.heap[g]?) : w'.ownsRow base e size v n xs := by
  obtain ⟨h1, h2⟩ := h
  refine ⟨h1, ?_⟩
  rcases h2 with h2 | ⟨g, cap, cur, hv, hg, hh, r⟩
  · exact Or.inl h2
  · exact Or.inr ⟨g, cap, cur, hv, hg, (hk g _ (by rw [hv]; rfl) hh).trans hh, r⟩
theorem GRow.keep {G : Value} {good : List (List UInt8)} (h : GRow w base ok G good) (h1 : ∀ (g : Nat) (C : Array Value), w.heap[g]? = some (.cells C 30 (0, 0)) → w'.heap[g]? = w.heap[g]?) (h2 : ∀ (g : Nat) (C : Array Value) (fr : Nat × Nat), w.heap[g]? = some (.cells C 5 fr) → w'.heap[g]? = w.heap[g]?) : GRow w' base ok G good := by
  obtain ⟨A, c, cs, e, ho, hb, hr⟩ := h
  exact ⟨A, c, cs, e, own_at_ ho fun g C _ hg => h1 g C hg, hb, fun i l hi => by
    obtain ⟨v, hv, hp⟩ := hr i l hi
    exact ⟨v, hv, hp.keep fun g C fr ho hg => ⟨h2 g C fr hg, ho⟩⟩⟩
theorem LRow.keep {L : Value} {loose : List (Nat × List UInt8)} (h : LRow w base ok L loose) (h1 : ∀ (g : Nat) (C : Array Value), w.heap[g]? = some (.cells C 129 (0, 0)) → w'.heap[g]? = w.heap[g]?) (h2 : ∀ (g : Nat) (C : Array Value) (fr : Nat × Nat), w.heap[g]? = some (.cells C 5 fr) → w'.heap[g]? = w.heap[g]?) : LRow w' base ok L loose := by
  obtain ⟨A, c, cs, e, ho, hb, hr⟩ := h
  exact ⟨A, c, cs, e, own_at_ ho fun g C _ hg => h1 g C hg, hb, fun i l hi => by
    obtain ⟨v, hv0, hv, hp⟩ := hr i l hi
    exact ⟨v, hv0, hv, hp.keep fun g C fr ho hg => ⟨h2 g C fr hg, ho⟩⟩⟩
theorem DAt.at_ {D D' : Dk} {G L Z : Value} {dn : Int} (h : DAt w base ok p D G L dn Z) (hA : At p w w') (hb : DBlk w' p D'.size D'.limit G L D'.fails D'.calls dn Z) (hs : D'.size = D.size) (hg : D'.good = D.good) (hl : D'.loose = D.loose) (hw : D'.OK) (hc : D'.calls ≤ 1000000000) : DAt w' base ok p D' G L dn Z := by
  have hne : ∀ (g : Nat) (C : Array Value) (t : TypeId) (fr : Nat × Nat), t ≠ 123 → w.heap[g]? = some (.cells C t fr) → w'.heap[g]? = w.heap[g]? := fun g C t fr ht hg => hA.block g (blk_lt hg) (fun e => by
    injection e with e
    subst e
    rw [h.blk] at hg
    injection hg with hg
    injection hg with _ hg
    exact ht hg.symm)
  refine ⟨hb, h.bp, h.okp, ?_, ?_, ?_, hw, hc⟩
  · rw [hg]
    exact h.good.keep (fun g C hc => hne g C 30 (0, 0) (by decide) hc) (fun g C fr hc => hne g C 5 fr (by decide) hc)
  · rw [hl]
    exact h.loose.keep (fun g C hc => hne g C 129 (0, 0) (by decide) hc) (fun g C fr hc => hne g C 5 fr (by decide) hc)
  · rw [hs]
    rcases h.zer with h0 | ⟨h1, h2⟩
    · exact .inl h0
    · exact .inr ⟨h1, h2.keep fun g C fr ho hg => ⟨hne g C 5 fr (by decide) hg, ho⟩⟩
theorem DAt.below {D : Dk} {G L Z : Value} {dn : Int} (h : DAt w base ok p D G L dn Z) (hb : Below w.heap.size w w') : DAt w' base ok p D G L dn Z :=
  ⟨(hb.block p h.blk.lt).trans h.blk, h.bp, h.okp, h.good.keep (fun g C hc => hb.block g (blk_lt hc)) (fun g C fr hc => hb.block g (blk_lt hc)),
    h.loose.keep (fun g C hc => hb.block g (blk_lt hc)) (fun g C fr hc => hb.block g (blk_lt hc)), by
    rcases h.zer with h0 | ⟨h1, h2⟩
    · exact .inl h0
    · exact .inr ⟨h1, h2.keep fun g C fr ho hg => ⟨hb.block g (blk_lt hg), ho⟩⟩, h.wf, h.cb⟩
theorem DiskAt.below {D : Dk} (h : DiskAt w base ok p D) (hb : Below w.heap.size w w') : DiskAt w' base ok p D := by
  obtain ⟨G, L, dn, Z, h⟩ := h
  exact ⟨G, L, dn, Z, h.below hb⟩
theorem GRow.other {ok' : Nat → Prop} {G : Value} {good : List (List UInt8)} (h : GRow w base ok G good) (hk : ∀ k, k < w.heap.size → ok k → w'.heap[k]? = w.heap[k]? ∧ ok' k) : GRow w' base ok' G good := by
  obtain ⟨A, c, cs, e, ho, hb, hr⟩ := h
  have hlt : ∀ k, G.ownBlock = some k → k < w.heap.size := fun k hk => (ho.lt k hk).2
  exact ⟨A, c, cs, e, own_at_ ho fun g C hv hg => (hk g (blk_lt hg) (hb g hv)).1, fun k hv => (hk k (hlt k hv) (hb k hv)).2, fun i l hi => by
    obtain ⟨v, hv, hp⟩ := hr i l hi
    exact ⟨v, hv, hp.keep fun g C fr ho hg => hk g (blk_lt hg) ho⟩⟩
theorem LRow.other {ok' : Nat → Prop} {L : Value} {loose : List (Nat × List UInt8)} (h : LRow w base ok L loose) (hk : ∀ k, k < w.heap.size → ok k → w'.heap[k]? = w.heap[k]? ∧ ok' k) : LRow w' base ok' L loose := by
  obtain ⟨A, c, cs, e, ho, hb, hr⟩ := h
  have hlt : ∀ k, L.ownBlock = some k → k < w.heap.size := fun k hk => (ho.lt k hk).2
  exact ⟨A, c, cs, e, own_at_ ho fun g C hv hg => (hk g (blk_lt hg) (hb g hv)).1, fun k hv => (hk k (hlt k hv) (hb k hv)).2, fun i l hi => by
    obtain ⟨v, hv0, hv, hp⟩ := hr i l hi
    exact ⟨v, hv0, hv, hp.keep fun g C fr ho hg => hk g (blk_lt hg) ho⟩⟩
theorem DiskAt.other {ok' : Nat → Prop} {D : Dk} (h : DiskAt w base ok p D) (hk : ∀ k, k < w.heap.size → ok k → w'.heap[k]? = w.heap[k]? ∧ ok' k) : DiskAt w' base ok' p D := by
  obtain ⟨G, L, dn, Z, h⟩ := h
  refine ⟨G, L, dn, Z, (hk p h.blk.lt h.okp).1.trans h.blk, h.bp, (hk p h.blk.lt h.okp).2, h.good.other hk, h.loose.other hk, ?_, h.wf, h.cb⟩
  rcases h.zer with h0 | ⟨h1, h2⟩
  · exact .inl h0
  · exact .inr ⟨h1, h2.keep fun g C fr ho hg => hk g (blk_lt hg) ho⟩
end
/-! what only reads -/
section
variable {w : World} {base : Nat} {ok : Nat → Prop} {p : Nat} {D : Dk}
theorem dsize_any (h : DiskAt w base ok p D) : Calls Try.prog 17 #[.pointer (some ⟨p, 0, none⟩)] w fun e w' => e = .returned (.int .i64 (D.size : Int)) ∧ w = w' := by
  obtain ⟨G, L, dn, Z, h⟩ := h
  obtain ⟨c0, _⟩ := h.blk.cells
  go_enter Try.func17, Try.ntmps17
  go_wp2
  go_ret
  exact ⟨rfl, rfl⟩
theorem dlimit_any (h : DiskAt w base ok p D) : Calls Try.prog 18 #[.pointer (some ⟨p, 0, none⟩)] w fun e w' => e = .returned (.int .i64 (D.limit : Int)) ∧ w = w' := by
  obtain ⟨G, L, dn, Z, h⟩ := h
  obtain ⟨_, c1, _⟩ := h.blk.cells
  go_enter Try.func18, Try.ntmps18
  go_wp2
  go_ret
  exact ⟨rfl, rfl⟩
theorem dlen_any (h : DiskAt w base ok p D) : Calls Try.prog 19 #[.pointer (some ⟨p, 0, none⟩)] w fun e w' => e = .returned (.int .i64 (D.good.length : Int)) ∧ w = w' := by
  obtain ⟨G, L, dn, Z, h⟩ := h
  obtain ⟨A, c, cs, rfl, _⟩ := h.good
  obtain ⟨_, _, c2, _⟩ := h.blk.cells
  go_enter Try.func19, Try.ntmps19
  go_wp2
  go_ret
  exact ⟨rfl, rfl⟩
theorem dloose_any (h : DiskAt w base ok p D) : Calls Try.prog 26 #[.pointer (some ⟨p, 0, none⟩)] w fun e w' => e = .returned (.int .i64 (D.loose.length : Int)) ∧ w = w' := by
  obtain ⟨G, L, dn, Z, h⟩ := h
  obtain ⟨A, c, cs, rfl, _⟩ := h.loose
  obtain ⟨_, _, _, c3, _⟩ := h.blk.cells
  go_enter Try.func26, Try.ntmps26
  go_wp2
  go_ret
  exact ⟨rfl, rfl⟩
theorem dcalls_any (h : DiskAt w base ok p D) : Calls Try.prog 20 #[.pointer (some ⟨p, 0, none⟩)] w fun e w' => e = .returned (.int .i64 (D.calls : Int)) ∧ w = w' := by
  obtain ⟨G, L, dn, Z, h⟩ := h
  obtain ⟨_, _, _, _, _, c5, _⟩ := h.blk.cells
  have hl := run_call_load (P := Try.prog) Try.func75 (by kernel_rfl) (by kernel_rfl) (by kernel_rfl) .i64 (by kernel_rfl) c5
  go_enter Try.func20, Try.ntmps20
  go_wp2_with (first | go_in)
  go_ret
  exact ⟨rfl, rfl⟩
theorem dthere_any (h : DiskAt w base ok p D) (I : Int) : Calls Try.prog 57 #[.pointer (some ⟨p, 0, none⟩), .int .i64 I] w fun e w' => e = .returned (.bool (decide (0 ≤ I ∧ I < (D.good.length : Int)))) ∧ w = w' := by
  have hlen := dlen_any h
  obtain ⟨N, hN⟩ : ∃ N, D.good.length = N := ⟨_, rfl⟩
  rw [hN] at hlen ⊢
  by_cases h1 : 0 ≤ I
  · have d1 : decide (0 ≤ I) = true := decide_eq_true h1
    go_enter Try.func57, Try.ntmps57
    go_wp2_with (first | (go_at_call 19; refine hlen.mono ?_; rintro e w' ⟨rfl, rfl⟩))
    go_ret
    exact ⟨by simp [h1], rfl⟩
  · have d1 : decide (0 ≤ I) = false := decide_eq_false h1
    go_enter Try.func57, Try.ntmps57
    go_wp2_with (first | (go_at_call 19; refine hlen.mono ?_; rintro e w' ⟨rfl, rfl⟩))
    go_ret
    exact ⟨by simp [h1], rfl⟩
set_option maxRecDepth 100000 in
theorem dcount_any {G L Z : Value} {dn : Int} (h : DAt w base ok p D G L dn Z) (hc : D.calls < 1000000000) : Calls Try.prog 54 #[.pointer (some ⟨p, 0, none⟩)] w fun e w' => e = .returned (.int .i64 D.err) ∧ DAt w' base ok p D.count G L dn Z ∧ At p w w' := by
  have hb := h.blk
  have hwf := h.wf
  obtain ⟨_, _, _, _, c4, c5, _⟩ := hb.cells
  have z4 := hb.free 4
  have z5 := hb.free 5
  have hadd := run_call_add (P := Try.prog) Try.func81 (by kernel_rfl) (by kernel_rfl) (by kernel_rfl) .i64 (by kernel_rfl) (y := 1) (s := ((D.calls + 1 : Nat) : Int)) c5 z5 (by
    have : IntKind.i64.wrap ((D.calls : Int) + 1) = ((D.calls + 1 : Nat) : Int) := by rw [IntWalk.i64_in _ (by omega)]; rfl
    simp [go_sem]; exact this)
  have hb5 := hb.set5 (D.calls + 1)
  have hfl := hwf.f1
  have hfu := hwf.f2
  obtain ⟨fa, hfa⟩ : ∃ fa, D.fails = fa := ⟨_, rfl⟩
  have HB : ∀ (fa' : Int) (w' : World), (if D.fails = -1 then -1 else D.fails - 1) = fa' → DBlk w' p D.size D.limit G L fa' (D.calls + 1) dn Z → DBlk w' p D.count.size D.count.limit G L D.count.fails D.count.calls dn Z := fun fa' w' e hh => by
    show DBlk w' p D.size D.limit G L (if D.fails = -1 then -1 else D.fails - 1) (D.calls + 1) dn Z
    rw [e]
    exact hh
  have FIN : ∀ (fa' : Int) (w' : World), (if D.fails = -1 then -1 else D.fails - 1) = fa' → DBlk w' p D.size D.limit G L fa' (D.calls + 1) dn Z → At p w w' → DAt w' base ok p D.count G L dn Z := fun fa' w' e hh hA =>
    h.at_ hA (HB fa' w' e hh) rfl rfl rfl hwf.count (by show D.calls + 1 ≤ _; omega)
  have FH := Lib.hid FIN
  have HF := Lib.hid hfa
  have HH := Lib.hid h
  rw [hfa] at c4 hfl hfu hb5
  unfold Dk.err
  rw [hfa]
  clear h hb hwf HB FIN hfa
  by_cases h1 : fa = -1
  · subst h1
    go_enter Try.func54, Try.ntmps54
    go_wp2_with (first | go_in)
    go_ret
    exact ⟨rfl, FH.out (-1) _ (by rw [HF.out]; rfl) hb5 ((At.refl p w).setCell 5 _), (At.refl p w).setCell 5 _⟩
  · have e1 : (fa == -1) = false := by simp [h1]
    have hb4 := hb5.set4 (fa - 1)
    have hw1 : IntKind.i64.wrap (fa - 1) = fa - 1 := IntWalk.i64_in _ (by omega)
    have hF : (if D.fails = -1 then -1 else D.fails - 1) = fa - 1 := by rw [HF.out, if_neg h1]
    have HF1 := Lib.hid hF
    clear hF
    by_cases h0 : fa = 0
    · subst h0
      rw [show ((0 : Int) - 1) = -1 from rfl] at hb4
      clear hw1 h1
      go_enter Try.func54, Try.ntmps54
      go_wp2_with (first | go_in)
      go_ret
      exact ⟨rfl, FH.out (-1) _ (by rw [HF1.out]; rfl) hb4 (((At.refl p w).setCell 5 _).setCell 4 _), ((At.refl p w).setCell 5 _).setCell 4 _⟩
    · have e2 : (fa - 1 == -1) = false := by simp; omega
      rw [if_neg h0]
      go_enter Try.func54, Try.ntmps54
      go_wp2_with (first | go_in)
      go_ret
      exact ⟨rfl, FH.out (fa - 1) _ HF1.out hb4 (((At.refl p w).setCell 5 _).setCell 4 _), ((At.refl p w).setCell 5 _).setCell 4 _⟩
end
end Go.Proofs.Ythijobbhpbklmaa
