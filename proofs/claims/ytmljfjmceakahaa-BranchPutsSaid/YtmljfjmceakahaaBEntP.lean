/- Layer 5's helper entries: what its rows hold. -/
import Derived.Test.YtmljfjmceakahaaBRef
import Derived.Test.YtmljfjmceakahaaBAwake
namespace Go.Proofs.Ytmljfjmceakahaa
open Go.RowKit
set_option linter.unusedVariables false
set_option linter.unusedSimpArgs false

theorem info_e : (Try.prog.info? 48).map (fun i => (i.zero, i.size, i.bytes)) = some (some (.agg #[.string ⟨#[]⟩, .int .u32 0]), 2, 24) := by kernel_rfl

/-- The model's entries as cells. -/
def RCs (es : List (List UInt8 × Nat)) : List Value := es.flatMap fun e => [.string (st e.1), .int .u32 (e.2 : Int)]
theorem RCs_length (es : List (List UInt8 × Nat)) : (RCs es).length = es.length * 2 := by
  induction es with
  | nil => rfl
  | cons e es ih => simp [RCs] at ih ⊢; omega
theorem RCs_append (a b : List (List UInt8 × Nat)) : RCs (a ++ b) = RCs a ++ RCs b := by simp [RCs]
theorem RCs_one (es : List (List UInt8 × Nat)) : ∀ u ∈ RCs es, u.oneCell' = true := by
  intro u hu
  simp only [RCs, List.mem_flatMap] at hu
  obtain ⟨e, _, he⟩ := hu
  simp at he
  rcases he with rfl | rfl <;> rfl
theorem RCs_take (es : List (List UInt8 × Nat)) (k : Nat) : (RCs es).take (k * 2) = RCs (es.take k) := by
  induction es generalizing k with
  | nil => simp [RCs]
  | cons e es ih =>
    cases k with
    | zero => simp [RCs]
    | succ k =>
      have := ih k
      rw [show (k + 1) * 2 = k * 2 + 1 + 1 by omega]
      simp only [RCs, List.flatMap_cons, List.cons_append, List.nil_append, List.take_succ_cons] at this ⊢
      rw [this]
theorem RCs_drop (es : List (List UInt8 × Nat)) (k : Nat) : (RCs es).drop (k * 2) = RCs (es.drop k) := by
  induction es generalizing k with
  | nil => simp [RCs]
  | cons e es ih =>
    cases k with
    | zero => simp [RCs]
    | succ k =>
      have := ih k
      rw [show (k + 1) * 2 = k * 2 + 1 + 1 by omega]
      simp only [RCs, List.flatMap_cons, List.cons_append, List.nil_append, List.drop_succ_cons] at this ⊢
      exact this
theorem RCs_at {es : List (List UInt8 × Nat)} {i : Nat} {k : List UInt8} {x : Nat} (h : es[i]? = some (k, x)) : (RCs es)[i * 2]? = some (.string (st k)) ∧ (RCs es)[i * 2 + 1]? = some (.int .u32 (x : Int)) := by
  induction es generalizing i with
  | nil => simp at h
  | cons e es ih =>
    cases i with
    | zero => simp at h; subst h; exact ⟨rfl, rfl⟩
    | succ i =>
      have := ih (i := i) (by simpa using h)
      rw [show (i + 1) * 2 = i * 2 + 1 + 1 by omega]
      simpa [RCs] using this
/-- Children and keys are such as they may come in. -/
def E32 (es : List (List UInt8 × Nat)) : Prop := ∀ e ∈ es, e.2 < 4294967296
theorem rents_own {w : World} {base : Nat} {e : TypeId} {A : Option Addr} {n c : Nat} {es : List (List UInt8 × Nat)} (h : w.ownsRow base e 2 (.slice A n c) n (RCs es)) (h32 : E32 es) : REnts w w.heap.size A n es := by
  have hR := Reads.of_own h
  have hl := hR.1
  rw [RCs_length] at hl
  refine ⟨by omega, fun i k x hi => ?_⟩
  have hlt := (List.getElem?_eq_some_iff.1 hi).1
  obtain ⟨ad, rfl, hb, hc⟩ := hR.2 (by omega)
  obtain ⟨h1, h2⟩ := RCs_at hi
  exact ⟨h32 _ (List.mem_of_getElem? hi), ad, rfl, hb, hc _ _ h1, by rw [add_of_add]; exact hc _ _ h2⟩

theorem REnts.more {w : World} {B B' : Nat} {A : Option Addr} {n : Nat} {es : List (List UInt8 × Nat)} (h : REnts w B A n es) (hB : B ≤ B') : REnts w B' A n es := by
  refine ⟨h.1, fun i k x hi => ?_⟩
  obtain ⟨hx, ad, he, hb, h1, h2⟩ := h.2 i k x hi
  exact ⟨hx, ad, he, by omega, h1, h2⟩
/-- s[m:] of elements of any size. -/
theorem cut_lN {P : Program} (t e : TypeId) (kl : IntKind) {i : TypeInfo} (size : Nat) (ht : P.underlying t = some (.slice e)) (hi : P.info? e = some i) (hsz : i.size = size) (A : Option Addr) (n c m : Nat) (hm : m ≤ n) :
    ∃ A' : Option Addr, (∀ W : World, (Instr.slice t (.slice A n c) (some (.int kl (m : Int))) none none).run P W = .ok (.slice A' (n - m) (c - m)) W) ∧
      ∀ (w : World) (B : Nat) (xs : List Value), n ≤ c → Reads w B size A n xs → Reads w B size A' (n - m) (xs.drop (m * size)) := by
  refine ⟨if c = m then A else A.map (·.add (m * size)), fun W => ?_, fun w B l hc h => h.cut hm hc⟩
  have hel : P.elem t = e := by simp [Program.elem, ht]
  have hu : P.underlying t = some (.slice (P.elem t)) := by rw [hel]; exact ht
  rw [run_slice_l W t A n c hu kl (m : Int) (Int.natCast_nonneg _) (by omega), hel]
  simp [sizeOf, typeInfo, hi, hsz, sliced, Result.andThen]
/-- s[:m] of elements of any size. -/
theorem cut_hN {P : Program} (t e : TypeId) (kh : IntKind) {i : TypeInfo} (size : Nat) (ht : P.underlying t = some (.slice e)) (hi : P.info? e = some i) (hsz : i.size = size) (A : Option Addr) (n c m : Nat) (hm : m ≤ n) (hc : n ≤ c) :
    ∃ A' : Option Addr, (∀ W : World, (Instr.slice t (.slice A n c) none (some (.int kh (m : Int))) none).run P W = .ok (.slice A' m c) W) ∧
      ∀ (w : World) (B : Nat) (xs : List Value), Reads w B size A n xs → Reads w B size A' m (xs.take (m * size)) := by
  refine ⟨if c = 0 then A else A.map (·.add (0 * size)), fun W => ?_, fun w B l h => ⟨?_, fun hn => ?_⟩⟩
  · have hel : P.elem t = e := by simp [Program.elem, ht]
    have hu : P.underlying t = some (.slice (P.elem t)) := by rw [hel]; exact ht
    rw [run_slice_h W t A n c hu kh (m : Int) (Int.natCast_nonneg _) (by omega), hel]
    simp [sizeOf, typeInfo, hi, hsz, sliced, Result.andThen]
  · have := h.1
    have h2 : m * size ≤ n * size := Nat.mul_le_mul_right _ hm
    rw [List.length_take]
    omega
  · obtain ⟨ad, rfl, hb, hcell⟩ := h.2 (by omega)
    rw [if_neg (by omega)]
    refine ⟨ad.add (0 * size), rfl, by rw [block_of_add]; exact hb, fun j u hu => ?_⟩
    rw [add_of_add, Nat.zero_mul, Nat.zero_add]
    refine hcell j u ?_
    rw [List.getElem?_take] at hu
    split at hu
    · exact hu
    · cases hu

theorem own_neF {w : World} {base : Nat} {e t : TypeId} {size n g : Nat} {v : Value} {xs : List Value} {cs : Array Value} {fr : Nat × Nat} (h : w.ownsRow base e size v n xs) (hg : w.heap[g]? = some (.cells cs t fr)) (hne : e ≠ t) : some g ≠ v.ownBlock := by
  rcases h.2 with ⟨rfl, _⟩ | ⟨g', cap, cur, rfl, _, hh, _⟩
  · simp [Value.ownBlock]
  · intro he
    have : g' = g := by simpa [Value.ownBlock] using he.symm
    subst this
    rw [hg] at hh
    injection hh with hh
    injection hh with _ ht
    exact hne ht.symm
/-- A slice of bytes at the head of a block. -/
def Kb (w : World) (A : Option Addr) (n c : Nat) (k : List UInt8) : Prop :=
  k.length = n ∧ n ≤ c ∧ ∃ (g : Nat) (C : Array Value) (fr : Nat × Nat), A = some ⟨g, 0, none⟩ ∧ w.heap[g]? = some (.cells C 5 fr) ∧ C.toList.take n = bv k
theorem Kb.same {w w' : World} {A : Option Addr} {n c : Nat} {k : List UInt8} (h : Kb w A n c k) (hk : ∀ (g : Nat) (C : Array Value) (fr : Nat × Nat), w.heap[g]? = some (.cells C 5 fr) → w'.heap[g]? = w.heap[g]?) : Kb w' A n c k := by
  obtain ⟨h1, h2, g, C, fr, h3, h4, h5⟩ := h
  exact ⟨h1, h2, g, C, fr, h3, (hk g C fr h4).trans h4, h5⟩
theorem Kb.sl {w : World} {A : Option Addr} {n c : Nat} {k : List UInt8} (h : Kb w A n c k) : Sl w w.heap.size A n c k := by
  obtain ⟨h1, h2, g, C, fr, rfl, h4, h5⟩ := h
  refine ⟨⟨by simp [bv_length, h1], fun _ => ⟨_, rfl, blk_lt h4, fun j u hu => ?_⟩⟩, h1, h2, fun h => by cases h⟩
  rw [Addr.add_lit, Nat.zero_add, cell_of_row _ _ _ _ _ fr h4]
  rw [← h5, List.getElem?_take] at hu
  split at hu
  · simpa using hu
  · cases hu
/-- []byte(s): an operation. -/
theorem wp_conv_bytes {P : Program} {w : World} {o : Oper} {a : Act} {K : Act → World → Prop} {Q : Exit → Act → World → Prop} (src dst : TypeId) (x : Operand) (ho : o.op = .convert src dst x) (k : List UInt8) {u : TypeDesc}
    (hs : P.underlying src = some u) (hd : P.underlying dst = some (.slice 5)) (he : P.underlying 5 = some (.int .u8)) (hx : a.eval x = .string (st k))
    (h : ∀ A c w', Kb w' A k.length c k → Below w.heap.size w w' → w'.heap.size = w.heap.size + 1 → K (a.put o.dst (.slice A k.length c)) w') : o.wp P a w K Q := by
  have hr := Lib.run_convert_string_bytes (P := P) w src dst 5 (st k) hs hd he
  unfold Oper.wp execOp
  simp only [ho, hx, Sem.run_bind, hr, Result.andThen_ok, Sem.run_pure]
  have hsz : (st k).size = k.length := by simp [st, ByteArray.size]
  rw [hsz]
  refine h _ _ _ ⟨rfl, ?_, _, _, _, rfl, Lib.bytesWorld_at_new w 5 (st k), ?_⟩ (below_bytes (Below.refl _ _) (Nat.le_refl _) _ _) (Lib.bytesWorld_size w _ _)
  · unfold grownCap
    simp [Question.cut]
  · simp [Lib.bytesCells, st, bv]

/-- Entries as cells, their keys at the heads of blocks of bytes. -/
def EPk (w : World) (cs : List Value) (es : List (List UInt8 × Nat)) : Prop :=
  cs.length = es.length * 2 ∧ ∀ (i : Nat) (k : List UInt8) (x : Nat), es[i]? = some (k, x) → x < 4294967296 ∧ ∃ A n c, cs[i * 2]? = some (.slice A n c) ∧ cs[i * 2 + 1]? = some (.int .u32 (x : Int)) ∧ Kb w A n c k
theorem EPk.nil_ (w : World) : EPk w [] [] := ⟨rfl, by simp⟩
theorem EPk.same {w w' : World} {cs : List Value} {es : List (List UInt8 × Nat)} (h : EPk w cs es) (hk : ∀ (g : Nat) (C : Array Value) (fr : Nat × Nat), w.heap[g]? = some (.cells C 5 fr) → w'.heap[g]? = w.heap[g]?) : EPk w' cs es := by
  refine ⟨h.1, fun i k x hi => ?_⟩
  obtain ⟨hx, A, n, c, h1, h2, h3⟩ := h.2 i k x hi
  exact ⟨hx, A, n, c, h1, h2, h3.same hk⟩
theorem EPk.below {w w' : World} {B : Nat} {cs : List Value} {es : List (List UInt8 × Nat)} (h : EPk w cs es) (hb : Below B w w') (hB : w.heap.size ≤ B) : EPk w' cs es :=
  h.same fun g C fr hg => hb.block g (Nat.lt_of_lt_of_le (blk_lt hg) hB)
theorem EPk.snoc {w : World} {cs : List Value} {es : List (List UInt8 × Nat)} (h : EPk w cs es) {A : Option Addr} {n c : Nat} {k : List UInt8} {x : Nat} (hx : x < 4294967296) (ho : Kb w A n c k) :
    EPk w (cs ++ [.slice A n c, .int .u32 (x : Int)]) (es ++ [(k, x)]) := by
  refine ⟨by simp [h.1]; omega, fun i k' x' hi => ?_⟩
  have hl := h.1
  by_cases hlt : i < es.length
  · rw [List.getElem?_append_left hlt] at hi
    obtain ⟨hx', A', n', c', h1, h2, h3⟩ := h.2 i k' x' hi
    exact ⟨hx', A', n', c', by rw [List.getElem?_append_left (by omega)]; exact h1, by rw [List.getElem?_append_left (by omega)]; exact h2, h3⟩
  · have hlen := (List.getElem?_eq_some_iff.1 hi).1
    simp at hlen
    obtain rfl : i = es.length := by omega
    simp at hi
    obtain ⟨rfl, rfl⟩ := hi
    exact ⟨hx, A, n, c, by rw [← hl]; simp, by rw [← hl, List.getElem?_append_right (by omega)]; simp, ho⟩
theorem EPk.ents {w : World} {b2 : Nat} {e : TypeId} {A : Option Addr} {n c : Nat} {cs : List Value} {es : List (List UInt8 × Nat)} (h : EPk w cs es) (hr : w.ownsRow b2 e 2 (.slice A n c) n cs) : Ents w w.heap.size A n es := by
  have hR := Reads.of_own hr
  have hl := h.1
  have hl2 := hR.1
  refine ⟨by omega, fun i k x hi => ?_⟩
  have hlt := (List.getElem?_eq_some_iff.1 hi).1
  obtain ⟨hx, Ak, nk, ck, h1, h2, h3⟩ := h.2 i k x hi
  obtain ⟨ad, rfl, hb, hc⟩ := hR.2 (by omega)
  exact ⟨hx, ad, Ak, nk, ck, rfl, hb, hc _ _ h1, by rw [add_of_add]; exact hc _ _ h2, h3.sl⟩

end Go.Proofs.Ytmljfjmceakahaa
