/- DiskSectors: plain: the states of the law. -/
import Derived.Test.YthijobbhpbklmaaDSecP
namespace Go.Proofs.Ythijobbhpbklmaa
set_option linter.unusedVariables false
set_option linter.unusedSimpArgs false

theorem crashed_snoc (l : List (Nat × List UInt8)) (x : Nat × List UInt8) : ∀ (ps : List UInt8) (g : List (List UInt8)),
    crashed g (l ++ [x]) ps = match ps[l.length]? with
      | some q => (crashed g l ps).set x.1 (mixed q ((crashed g l ps).getD x.1 []) x.2)
      | none => crashed g l ps := by
  induction l with
  | nil =>
    intro ps g
    cases ps with
    | nil => rfl
    | cons p ps => cases ps <;> rfl
  | cons y l ih =>
    intro ps g
    cases ps with
    | nil => rfl
    | cons p ps => exact ih ps _
/-- While the first bytes are written. -/
structure SSt (D : Dk) (n j : Nat) (fs : List UInt8) : Prop where
  sz : D.size = 640
  lm : D.limit = 9
  g : D.good.length = n
  lo : D.loose.length ≤ j
  ca : D.calls ≤ 1 + j
  fa : D.fails = -1
  lk : ∀ i, i < j → D.look i = List.replicate 640 (fs.getD i 0)
theorem sst_start (n : Nat) (fs : List UInt8) : SSt ((dNew 640 9).count.grown n) n 0 fs := by
  refine ⟨rfl, rfl, ?_, Nat.le_refl _, Nat.le_refl _, rfl, fun i hi => absurd hi (by omega)⟩
  show ([] ++ List.replicate (n - 0) (zeros 640) : List (List UInt8)).length = n
  simp
theorem SSt.write {D : Dk} {n j : Nat} {fs : List UInt8} (h : SSt D n j fs) (hj : j < n) {x : UInt8} (hx : fs[j]? = some x) : SSt (D.count.written j (List.replicate 640 x)) n (j + 1) fs := by
  refine ⟨h.sz, h.lm, h.g, ?_, ?_, ?_, fun i hi => ?_⟩
  · show (D.loose ++ [(j, _)]).length ≤ _
    rw [List.length_append, List.length_singleton]
    have := h.lo
    omega
  · show D.calls + 1 ≤ _
    have := h.ca
    omega
  · show (if D.fails = -1 then -1 else D.fails - 1) = -1
    rw [h.fa]; rfl
  · show lookIn (D.loose ++ [(j, _)]) i (D.good.getD i []) = _
    rw [lookIn_snoc]
    by_cases e : j = i
    · subst e
      rw [if_pos rfl, List.getD, hx]
      rfl
    · rw [if_neg e]
      exact h.lk i (by omega)
/-- The wanted bytes, so many sectors told. -/
structure SWant (ws fs : List UInt8) (n m : Nat) : Prop where
  len : ws.length = 5 * n
  at_ : ∀ k, k < m → ws.getD k 0 = fs.getD (k / 5) 0
theorem swant_start (fs : List UInt8) (n : Nat) : SWant (List.replicate (5 * n) 0) fs n 0 := ⟨by rw [List.length_replicate], fun k h => absurd h (by omega)⟩
theorem SWant.set {ws fs : List UInt8} {n j s : Nat} (h : SWant ws fs n (5 * j + s)) (hs : s < 5) (hj : j < n) {x : UInt8} (hx : fs[j]? = some x) : SWant (ws.set (5 * j + s) x) fs n (5 * j + (s + 1)) := by
  refine ⟨by rw [List.length_set]; exact h.len, fun k hk => ?_⟩
  by_cases e : 5 * j + s = k
  · subst e
    rw [show (5 * j + s) / 5 = j by omega, List.getD, List.getElem?_set_self (by rw [h.len]; omega), List.getD, hx]
  · rw [← h.at_ k (by omega), List.getD, List.getElem?_set_ne e]
    rfl
/-- Behind the sync. -/
structure TSt (D : Dk) (n j : Nat) (want : List UInt8) (ps : List UInt8) : Prop where
  sz : D.size = 640
  lm : D.limit = 9
  g : D.good.length = n
  lo : D.loose.length = j
  ca : D.calls ≤ 20 + j
  fa : D.fails = -1
  sec : Sec (crashed D.good D.loose ps) want
theorem SSt.sync {D : Dk} {n : Nat} {fs ws : List UInt8} (h : SSt D n n fs) (hok : D.OK) (hn : n ≤ 6) (hw : SWant ws fs n (5 * n)) (ps : List UInt8) : TSt D.count.synced n 0 ws ps := by
  refine ⟨h.sz, h.lm, (laid_length _ _).trans h.g, rfl, ?_, ?_, ?_⟩
  · show D.calls + 1 ≤ _
    have := h.ca
    omega
  · show (if D.fails = -1 then -1 else D.fails - 1) = -1
    rw [h.fa]; rfl
  · show Sec (crashed (laid D.good D.loose) [] ps) ws
    rw [crashed_nil]
    refine ⟨by rw [laid_length, h.g]; exact hw.len, fun i hi => ?_⟩
    rw [laid_length, h.g] at hi
    rw [laid_look D.loose i D.good (by rw [h.g]; exact hi) (fun x hx => (hok.o1 x hx).1)]
    have e := h.lk i hi
    unfold Dk.look at e
    rw [e]
    unfold secPage
    apply List.ext_getElem?
    intro k
    by_cases hk : k < 640
    · rw [List.getElem?_replicate, if_pos hk, List.getElem?_map, List.getElem?_range hk, Option.map_some, hw.at_ _ (by omega), show (5 * i + k / 128) / 5 = i by omega]
    · rw [List.getElem?_eq_none (by rw [List.length_replicate]; omega), List.getElem?_eq_none (by rw [List.length_map, List.length_range]; omega)]
theorem TSt.write {D : Dk} {n j a : Nat} {want ps : List UInt8} (h : TSt D n j want ps) (ha : a < n) (v : UInt8) :
    TSt (D.count.written a (List.replicate 640 v)) n (j + 1) (match ps[j]? with | some q => wantTo want a q v 5 | none => want) ps := by
  refine ⟨h.sz, h.lm, h.g, ?_, ?_, ?_, ?_⟩
  · show (D.loose ++ [(a, _)]).length = _
    rw [List.length_append, List.length_singleton, h.lo]
  · show D.calls + 1 ≤ _
    have := h.ca
    omega
  · show (if D.fails = -1 then -1 else D.fails - 1) = -1
    rw [h.fa]; rfl
  · show Sec (crashed D.good (D.loose ++ [(a, _)]) ps) _
    rw [crashed_snoc, h.lo]
    cases ps[j]? with
    | none => exact h.sec
    | some q => exact h.sec.step (by rw [crashed_length, h.g]; exact ha) q v
/-- Behind the crash. -/
structure USt (D : Dk) (n C : Nat) (want : List UInt8) : Prop where
  sz : D.size = 640
  lm : D.limit = 9
  g : D.good.length = n
  lo : D.loose = []
  ca : D.calls ≤ C
  fa : D.fails = -1
  wl : want.length = 5 * n
  lk : ∀ i, i < n → D.look i = secPage want i
theorem TSt.crash {D : Dk} {n j C : Nat} {want ps : List UInt8} (h : TSt D n j want ps) (hC : 20 + j ≤ C) : USt (D.crash ps) n C want := by
  have hl : (crashed D.good D.loose ps).length = n := (crashed_length _ _ _).trans h.g
  refine ⟨h.sz, h.lm, hl, rfl, Nat.le_trans h.ca hC, rfl, by rw [h.sec.1, hl], fun i hi => ?_⟩
  show lookIn [] i ((crashed D.good D.loose ps).getD i []) = _
  exact h.sec.2 i (by rw [hl]; exact hi)
theorem USt.count {D : Dk} {n C : Nat} {want : List UInt8} (h : USt D n C want) : USt D.count n (C + 1) want :=
  ⟨h.sz, h.lm, h.g, h.lo, by show D.calls + 1 ≤ _; have := h.ca; omega, by show (if D.fails = -1 then -1 else D.fails - 1) = -1; rw [h.fa]; rfl, h.wl, h.lk⟩
theorem secPage_get {want : List UInt8} {i k : Nat} (hk : k < 640) (hw : 5 * i + 5 ≤ want.length) : ∃ v, (secPage want i)[k]? = some v ∧ want[5 * i + k / 128]? = some v := by
  have h1 : 5 * i + k / 128 < want.length := by omega
  refine ⟨want[5 * i + k / 128], ?_, List.getElem?_eq_getElem h1⟩
  unfold secPage
  rw [List.getElem?_map, List.getElem?_range hk, Option.map_some, List.getD, List.getElem?_eq_getElem h1]
  rfl
theorem mod_at (x : UInt8) (n : Nat) (hn : 0 < n) : ∃ a : Nat, (x.toNat : Int).tmod (n : Int) = (a : Int) ∧ a < n :=
  ⟨x.toNat % n, by rw [Int.tmod_eq_emod_of_nonneg (by omega)]; rfl, Nat.mod_lt _ hn⟩
theorem pick_bit5 (pk : UInt8) (s : Nat) (hs : s < 5) : (bits BinOp.and IntKind.u8 ((pk.toNat : Int) / 2 ^ s) 1 == 1) = pickB pk (s * 128) := by
  have := pick_bit pk s
  rwa [show s % 8 = s by omega] at this
end Go.Proofs.Ythijobbhpbklmaa
