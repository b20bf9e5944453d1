/- What a page of pairs tells. -/
import Derived.Test.YthmkmojlnfkfjaaFPut
namespace Go.Proofs.Ythmkmojlnfkfjaa
open Go.RowKit
set_option linter.unusedVariables false
set_option linter.unusedSimpArgs false

theorem be_numB (x sz : Nat) (h : x < 256 ^ sz) : be (numB x sz) = x := by
  have key : ∀ k, k ≤ sz → be ((numB x sz).take k) = x / 256 ^ (sz - k) := by
    intro k
    induction k with
    | zero => intro _; simp [be, Nat.div_eq_of_lt h]
    | succ k ih =>
      intro hk
      rw [numB_take _ _ _ (by omega), be_snoc, ih (by omega)]
      have e1 : 2 ^ (8 * (sz - 1 - k)) = 256 ^ (sz - (k + 1)) := by rw [Nat.pow_mul, show sz - 1 - k = sz - (k + 1) by omega]
      have e2 : 256 ^ (sz - k) = 256 ^ (sz - (k + 1)) * 256 := by rw [← Nat.pow_succ]; congr 1; omega
      rw [e1, e2, ← Nat.div_div_eq_div_mul]
      simp only [UInt8.toNat_ofNat']
      omega
  have := key sz (Nat.le_refl _)
  rw [List.take_of_length_le (by rw [numB_length]; exact Nat.le_refl _)] at this
  rw [this, Nat.sub_self, Nat.pow_zero, Nat.div_one]
theorem be_take_lt (l : List UInt8) (k : Nat) : be (l.take k) < 256 ^ k :=
  Nat.lt_of_lt_of_le (be_lt _) (Nat.pow_le_pow_right (by omega) (by rw [List.length_take]; omega))
/-- The pair that stands somewhere. -/
def rdP (b : List UInt8) (i : Nat) : FP := (be ((b.drop (8 + i * 12)).take 8), be ((b.drop (16 + i * 12)).take 4))
def rdPs (b : List UInt8) (k : Nat) : List FP := (List.range k).map (rdP b)
theorem rdPs_succ (b : List UInt8) (k : Nat) : rdPs b (k + 1) = rdPs b k ++ [rdP b k] := by simp [rdPs, List.range_succ]
theorem rdPs_length (b : List UInt8) (k : Nat) : (rdPs b k).length = k := by simp [rdPs]
theorem rdP_ok (b : List UInt8) (i : Nat) : FPok (rdP b i) := ⟨be_take_lt _ 8, be_take_lt _ 4⟩
theorem rdPs_ok (b : List UInt8) (k : Nat) : FPs (rdPs b k) := by
  intro p hp
  obtain ⟨i, _, rfl⟩ := List.mem_map.1 hp
  exact rdP_ok b i
def rdN (b : List UInt8) : Nat := be ((b.drop 2).take 2)
def rdX (b : List UInt8) : Nat := be ((b.drop 4).take 4)
theorem rdN_lt (b : List UInt8) : rdN b < 65536 := be_take_lt _ 2
theorem rdX_lt (b : List UInt8) : rdX b < 4294967296 := be_take_lt _ 4
/-- A page of these pairs, the next page. -/
def FPage (ps : List FP) (next : Nat) (b : List UInt8) : Prop := FPs ps ∧ next < 4294967296 ∧ FRight ps (b.length : Int) ∧ fPut ps next b.length = b

theorem fCell_length (p : FP) : (fCell p).length = 12 := by simp [fCell, numB_length]
theorem fCells_drop (ps : List FP) (i : Nat) : (fCells ps).drop (i * 12) = fCells (ps.drop i) := by
  induction ps generalizing i with
  | nil => simp [fCells]
  | cons p ps ih =>
    cases i with
    | zero => simp
    | succ i =>
      have := ih i
      rw [show (i + 1) * 12 = 12 + i * 12 by omega, ← List.drop_drop]
      simp only [fCells, List.flatMap_cons, List.drop_succ_cons] at this ⊢
      rw [List.drop_left' (fCell_length p), this]
theorem FPage.reads {ps : List FP} {next : Nat} {b : List UInt8} (h : FPage ps next b) : rdN b = ps.length ∧ rdX b = next ∧ rdPs b ps.length = ps := by
  obtain ⟨hok, hx, ⟨h1, h2, h3, h4⟩, hb⟩ := h
  rw [Int.toNat_natCast] at h3
  have hr := fRoom_bounds (size := b.length) (by omega) (by omega)
  have hlen : ps.length < 256 ^ 2 := by omega
  obtain ⟨Z, hZ⟩ : ∃ Z : List UInt8, List.replicate (b.length - 8 - ps.length * 12) 0 = Z := ⟨_, rfl⟩
  have hb2 : b = [4, 0] ++ (numB ps.length 2 ++ (numB next 4 ++ (fCells ps ++ Z))) := by
    refine hb.symm.trans ?_
    unfold fPut
    rw [hZ]
    simp
  have e2 : b.drop 2 = numB ps.length 2 ++ (numB next 4 ++ (fCells ps ++ Z)) := by rw [hb2]; rfl
  have e4 : b.drop 4 = numB next 4 ++ (fCells ps ++ Z) := by
    rw [show (4 : Nat) = 2 + 2 from rfl, ← List.drop_drop, e2, List.drop_left' (numB_length _ _)]
  have e8 : b.drop 8 = fCells ps ++ Z := by
    rw [show (8 : Nat) = 4 + 4 from rfl, ← List.drop_drop, e4, List.drop_left' (numB_length _ _)]
  refine ⟨?_, ?_, ?_⟩
  · unfold rdN
    rw [e2, List.take_left' (numB_length _ _), be_numB _ _ hlen]
  · unfold rdX
    rw [e4, List.take_left' (numB_length _ _), be_numB _ _ hx]
  · apply List.ext_getElem?
    intro i
    by_cases hi : i < ps.length
    · obtain ⟨p, hp⟩ : ∃ p, ps[i]? = some p := ⟨_, List.getElem?_eq_getElem hi⟩
      obtain ⟨p1, p2⟩ := hok p (List.mem_of_getElem? hp)
      have hd : ps.drop i = p :: ps.drop (i + 1) := by
        obtain ⟨hi, rfl⟩ := List.getElem?_eq_some_iff.1 hp
        exact List.drop_eq_getElem_cons hi
      have hi12 : b.drop (8 + i * 12) = numB p.1 8 ++ (numB p.2 4 ++ (fCells (ps.drop (i + 1)) ++ Z)) := by
        rw [← List.drop_drop, e8, List.drop_append_of_le_length (by rw [fCells_length]; omega), fCells_drop, hd]
        simp [fCells, fCell]
      have hi16 : b.drop (16 + i * 12) = numB p.2 4 ++ (fCells (ps.drop (i + 1)) ++ Z) := by
        rw [show 16 + i * 12 = (8 + i * 12) + 8 by omega, ← List.drop_drop, hi12, List.drop_left' (numB_length _ _)]
      rw [hp]
      simp only [rdPs, List.getElem?_map, List.getElem?_range hi, Option.map_some, rdP]
      rw [hi12, hi16, List.take_left' (numB_length _ _), List.take_left' (numB_length _ _), be_numB _ _ p1, be_numB _ _ p2]
    · rw [List.getElem?_eq_none (by rw [rdPs_length]; omega), List.getElem?_eq_none (by omega)]
/-- Whether bytes are a page can be seen at what is read. -/
theorem FPage.only {ps : List FP} {next : Nat} {b : List UInt8} (h : FPage ps next b) : FPage (rdPs b (min (rdN b) (fRoom b.length))) (rdX b) b := by
  obtain ⟨h1, h2, h3⟩ := h.reads
  have hle := h.2.2.1.2.2.1
  rw [Int.toNat_natCast] at hle
  rw [h1, h2, Nat.min_eq_left hle, h3]
  exact h
theorem fPage_dec {b : List UInt8} (hl : 512 ≤ b.length) (hl' : b.length ≤ 4096) (hR : FRight (rdPs b (min (rdN b) (fRoom b.length))) (b.length : Int))
    (hb : fPut (rdPs b (min (rdN b) (fRoom b.length))) (rdX b) b.length = b) : FPage (rdPs b (min (rdN b) (fRoom b.length))) (rdX b) b := ⟨rdPs_ok _ _, rdX_lt _, hR, hb⟩

theorem take_nn (l : List UInt8) (n : Nat) (h : n ≤ l.length) : takeL l 0 n = l.take n ∧ takeR l 0 n = l.drop n ∧ takeE l 0 n = 0 := by
  have h' : ¬ l.length < n := by omega
  simp [takeL, takeR, takeE, h']
theorem take_dd (l : List UInt8) (a n b : Nat) (hb : a + n = b) (h : b ≤ l.length) : takeL (l.drop a) 0 n = (l.drop a).take n ∧ takeR (l.drop a) 0 n = l.drop b ∧ takeE (l.drop a) 0 n = 0 := by
  obtain ⟨h1, h2, h3⟩ := take_nn (l.drop a) n (by rw [List.length_drop]; omega)
  exact ⟨h1, by rw [h2, List.drop_drop, hb], h3⟩
theorem bytes_eq (w : World) (B D : Nat) (A : Option Addr) (n c : Nat) (l : List UInt8) (A' : Option Addr) (n' c' : Nat) (l' : List UInt8) (h : Sl w B A n c l) (h' : Sl w D A' n' c' l') :
    Calls Try.prog 39 #[.slice A n c, .slice A' n' c'] w fun e w' => e = .returned (.bool (decide (l = l'))) ∧ w = w' := by
  have q1 := string_of_sl (P := Try.prog) Try.underlying35 Try.underlying5 Try.underlying9 h
  have q2 := string_of_sl (P := Try.prog) Try.underlying35 Try.underlying5 Try.underlying9 h'
  go_enter Try.func39, Try.ntmps39
  go_wp2
  go_ret
  refine ⟨?_, rfl⟩
  simp
  by_cases e : l = l' <;> simp [e]
theorem own_same {w w' : World} {base : Nat} {e : TypeId} {size n : Nat} {v : Value} {xs : List Value} (h : w.ownsRow base e size v n xs) (hk : ∀ (g : Nat) (C : Array Value), w.heap[g]? = some (.cells C e (0, 0)) → w'.heap[g]? = w.heap[g]?) : w'.ownsRow base e size v n xs := by
  obtain ⟨h1, h2⟩ := h
  refine ⟨h1, ?_⟩
  rcases h2 with h2 | ⟨g, cap, cur, hv, hg, hh, r⟩
  · exact Or.inl h2
  · exact Or.inr ⟨g, cap, cur, hv, hg, (hk g _ hh).trans hh, r⟩
theorem own_at_r {w w' : World} {base g : Nat} {e : TypeId} {size n : Nat} {v : Value} {xs : List Value} {l : List UInt8} {x : Int} (h : w.ownsRow base e size v n xs) (hA : At g w w') (hR : IsR w g l x) (ht : e ≠ 105) : w'.ownsRow base e size v n xs := by
  obtain ⟨A, n', c, hb, _⟩ := hR
  exact own_same h fun g' C hg' => hA.block g' (blk_lt hg') (fun e => by injection e with e; subst e; rw [hb] at hg'; injection hg' with hg'; injection hg' with _ hg'; exact ht hg'.symm)
theorem IsR.grown_ {w w' : World} {g : Nat} {l : List UInt8} {e : Int} {row : Option Nat} (h : IsR w g l e) (hA : w.grownBy w' row) (hq : ∀ k, row = some k → g + 1 ≤ k) : IsR w' g l e := by
  obtain ⟨A, n, c, h1, h2⟩ := h
  have hg := blk_lt h1
  exact ⟨A, n, c, (hA.block g hg (fun e => by have := hq _ e.symm; omega)).trans h1, h2.keep fun k hk => hA.block k (by omega) (fun e => by have := hq _ e.symm; omega)⟩
theorem Reads.two (w : World) (a b : Value) (t : TypeId) : Reads (w.alloc (.cells #[a, b] t)) (w.heap.size + 1) 2 (some ⟨w.heap.size, 0, none⟩) 1 [a, b] := by
  have hb : (w.alloc (.cells #[a, b] t)).heap[w.heap.size]? = some (.cells #[a, b] t (0, 0)) := heap_alloc_new w _
  refine ⟨rfl, fun _ => ⟨_, rfl, by simp, fun j u hu => ?_⟩⟩
  rw [Addr.add_lit, Nat.zero_add, blk_cell hb]
  simpa using hu
theorem rnum_at {w : World} {g : Nat} {l : List UInt8} {a b sz : Nat} (h : IsR w g (l.drop a) 0) (S : Int) (hS : S = (sz : Int)) (h1 : 1 ≤ sz) (h8 : sz ≤ 8) (hab : a + sz = b) (hb : b ≤ l.length) :
    Calls Try.prog 38 #[.pointer (some ⟨g, 0, none⟩), .int .i64 S] w fun r w' => r = .returned (.int .u64 (be ((l.drop a).take sz) : Nat)) ∧ IsR w' g (l.drop b) 0 ∧ At g w w' := by
  subst hS
  obtain ⟨e1, e2, e3⟩ := take_dd l a sz b hab hb
  have := rnum_any w g (l.drop a) 0 sz h1 h8 h
  rw [e1, e2, e3] at this
  exact this

end Go.Proofs.Ythmkmojlnfkfjaa
