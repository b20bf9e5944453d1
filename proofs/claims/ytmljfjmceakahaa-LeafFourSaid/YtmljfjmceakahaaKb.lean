/- Slices of elements of any size, cut; slices of bytes at the heads of blocks. -/
import Derived.Test.YtmljfjmceakahaaBMisc
import Derived.Test.YtmljfjmceakahaaRefN
namespace Go.Proofs.Ytmljfjmceakahaa
open Go.RowKit
set_option linter.unusedVariables false
set_option linter.unusedSimpArgs false

/-- s[m:] of elements of any size. -/
theorem cut_lN {P : Program} (t e : TypeId) (kl : IntKind) {i : TypeInfo} (size : Nat) (ht : P.underlying t = some (.slice e)) (hi : P.info? e = some i) (hsz : i.size = size) (A : Option Addr) (n c m : Nat) (hm : m ≤ n) :
    ∃ A' : Option Addr, (∀ W : World, (Instr.slice t (.slice A n c) (some (.int kl (m : Int))) none none).run P W = .ok (.slice A' (n - m) (c - m)) W) ∧
      ∀ (w : World) (B : Nat) (xs : List Value), n ≤ c → Reads w B size A n xs → Reads w B size A' (n - m) (xs.drop (m * size)) := by
  refine ⟨if c = m then A else A.map (·.add (m * size)), fun W => ?_, fun w B l hc h => h.cut hm hc⟩
  have hel : P.elem t = e := by simp [Program.elem, ht]
  have hu : P.underlying t = some (.slice (P.elem t)) := by rw [hel]; exact ht
  rw [run_slice_l W t A n c hu kl (m : Int) (Int.natCast_nonneg _) (by omega), hel]
  simp [sizeOf, typeInfo, hi, hsz, sliced, Result.andThen]
/-- s[:m] of elements of any size. -/
theorem cut_hN {P : Program} (t e : TypeId) (kh : IntKind) {i : TypeInfo} (size : Nat) (ht : P.underlying t = some (.slice e)) (hi : P.info? e = some i) (hsz : i.size = size) (A : Option Addr) (n c m : Nat) (hm : m ≤ n) (hc : n ≤ c) :
    ∃ A' : Option Addr, (∀ W : World, (Instr.slice t (.slice A n c) none (some (.int kh (m : Int))) none).run P W = .ok (.slice A' m c) W) ∧
      ∀ (w : World) (B : Nat) (xs : List Value), Reads w B size A n xs → Reads w B size A' m (xs.take (m * size)) := by
  refine ⟨if c = 0 then A else A.map (·.add (0 * size)), fun W => ?_, fun w B l h => ⟨?_, fun hn => ?_⟩⟩
  · have hel : P.elem t = e := by simp [Program.elem, ht]
    have hu : P.underlying t = some (.slice (P.elem t)) := by rw [hel]; exact ht
    rw [run_slice_h W t A n c hu kh (m : Int) (Int.natCast_nonneg _) (by omega), hel]
    simp [sizeOf, typeInfo, hi, hsz, sliced, Result.andThen]
  · have := h.1
    have h2 : m * size ≤ n * size := Nat.mul_le_mul_right _ hm
    rw [List.length_take]
    omega
  · obtain ⟨ad, rfl, hb, hcell⟩ := h.2 (by omega)
    rw [if_neg (by omega)]
    refine ⟨ad.add (0 * size), rfl, by rw [block_of_add]; exact hb, fun j u hu => ?_⟩
    rw [add_of_add, Nat.zero_mul, Nat.zero_add]
    refine hcell j u ?_
    rw [List.getElem?_take] at hu
    split at hu
    · exact hu
    · cases hu

theorem own_neF {w : World} {base : Nat} {e t : TypeId} {size n g : Nat} {v : Value} {xs : List Value} {cs : Array Value} {fr : Nat × Nat} (h : w.ownsRow base e size v n xs) (hg : w.heap[g]? = some (.cells cs t fr)) (hne : e ≠ t) : some g ≠ v.ownBlock := by
  rcases h.2 with ⟨rfl, _⟩ | ⟨g', cap, cur, rfl, _, hh, _⟩
  · simp [Value.ownBlock]
  · intro he
    have : g' = g := by simpa [Value.ownBlock] using he.symm
    subst this
    rw [hg] at hh
    injection hh with hh
    injection hh with _ ht
    exact hne ht.symm
/-- A slice of bytes at the head of a block. -/
def Kb (w : World) (A : Option Addr) (n c : Nat) (k : List UInt8) : Prop :=
  k.length = n ∧ n ≤ c ∧ ∃ (g : Nat) (C : Array Value) (fr : Nat × Nat), A = some ⟨g, 0, none⟩ ∧ w.heap[g]? = some (.cells C 5 fr) ∧ C.toList.take n = bv k
theorem Kb.same {w w' : World} {A : Option Addr} {n c : Nat} {k : List UInt8} (h : Kb w A n c k) (hk : ∀ (g : Nat) (C : Array Value) (fr : Nat × Nat), w.heap[g]? = some (.cells C 5 fr) → w'.heap[g]? = w.heap[g]?) : Kb w' A n c k := by
  obtain ⟨h1, h2, g, C, fr, h3, h4, h5⟩ := h
  exact ⟨h1, h2, g, C, fr, h3, (hk g C fr h4).trans h4, h5⟩
theorem Kb.sl {w : World} {A : Option Addr} {n c : Nat} {k : List UInt8} (h : Kb w A n c k) : Sl w w.heap.size A n c k := by
  obtain ⟨h1, h2, g, C, fr, rfl, h4, h5⟩ := h
  refine ⟨⟨by simp [bv_length, h1], fun _ => ⟨_, rfl, blk_lt h4, fun j u hu => ?_⟩⟩, h1, h2, fun h => by cases h⟩
  rw [Addr.add_lit, Nat.zero_add, cell_of_row _ _ _ _ _ fr h4]
  rw [← h5, List.getElem?_take] at hu
  split at hu
  · simpa using hu
  · cases hu
/-- []byte(s): an operation. -/
theorem wp_conv_bytes {P : Program} {w : World} {o : Oper} {a : Act} {K : Act → World → Prop} {Q : Exit → Act → World → Prop} (src dst : TypeId) (x : Operand) (ho : o.op = .convert src dst x) (k : List UInt8) {u : TypeDesc}
    (hs : P.underlying src = some u) (hd : P.underlying dst = some (.slice 5)) (he : P.underlying 5 = some (.int .u8)) (hx : a.eval x = .string (st k))
    (h : ∀ A c w', Kb w' A k.length c k → Below w.heap.size w w' → w'.heap.size = w.heap.size + 1 → K (a.put o.dst (.slice A k.length c)) w') : o.wp P a w K Q := by
  have hr := Lib.run_convert_string_bytes (P := P) w src dst 5 (st k) hs hd he
  unfold Oper.wp execOp
  simp only [ho, hx, Sem.run_bind, hr, Result.andThen_ok, Sem.run_pure]
  have hsz : (st k).size = k.length := by simp [st, ByteArray.size]
  rw [hsz]
  refine h _ _ _ ⟨rfl, ?_, _, _, _, rfl, Lib.bytesWorld_at_new w 5 (st k), ?_⟩ (below_bytes (Below.refl _ _) (Nat.le_refl _) _ _) (Lib.bytesWorld_size w _ _)
  · unfold grownCap
    simp [Question.cut]
  · simp [Lib.bytesCells, st, bv]

end Go.Proofs.Ytmljfjmceakahaa
