/- SRaws -/
import Derived.Test.YthijobbhpbklmaaSpPl6
import Derived.Deep.Slices
import Derived.Deep.Fields
import Derived.ChangeSame
import Derived.ChangeArms
import Derived.ChangeSlices
import Derived.OpenShut
import Derived.SizedLaws
/- Raw records that came in (law 08). -/
namespace Go.Proofs.Ythijobbhpbklmaa
open Go.RowKit Go.ChangeShapes Go.WideShapes Go.Deep
set_option linter.unusedVariables false
set_option linter.unusedSimpArgs false

/-- The capacities. -/
def Caps (w : World) (A : Option Addr) (n c : Nat) (rs : List FRc) : Prop := (n ≤ c ∧ c ≤ 9223372036854775807) ∧ ∀ (i : Nat) (r : FRc), rs[i]? = some r → ∃ ad Ap np cp, A = some ad ∧ w.cell? ((ad.add (i * 2)).add 1) = some (.slice Ap np cp) ∧ np ≤ cp ∧ cp ≤ 9223372036854775807
/-- Numbers of a row that came in. -/
theorem pgs_of_row {w : World} {x : Addr} {len : Nat} {zs : List Int} (hlz : len ≤ zs.length) (hcell : ∀ i, i < zs.length → w.cell? (x.add i) = some (.int .u32 (zs.getD i 0))) (hwf : ∀ n ∈ zs, (Lit.int .u32 n).wf = true) :
    ∀ k, k ≤ len → ∃ pl : List Nat, pl.length = k ∧ (∀ y ∈ pl, y < 4294967296) ∧ Reads w w.heap.size 1 (some x) k (Pgs pl) := by
  intro k
  induction k with
  | zero => intro _; exact ⟨[], rfl, by simp, rfl, fun h => absurd h (by omega)⟩
  | succ k ih =>
    intro hk
    obtain ⟨pl, h1, h2, h3⟩ := ih (by omega)
    have hc := hcell k (by omega)
    have hb := World.block_lt_of_cell? w _ hc
    rw [block_of_add] at hb
    have hw := hwf (zs.getD k 0) (by rw [List.getD, List.getElem?_eq_getElem (by omega)]; exact List.getElem_mem _)
    have b := bounds_u32 hw
    obtain ⟨y, hy⟩ := Int.eq_ofNat_of_zero_le b.1
    rw [hy] at hc b
    refine ⟨pl ++ [y], by simp [h1], fun z hz => ?_, by rw [Pgs_length]; simp [h1], fun _ => ⟨x, rfl, hb, fun j u hu => ?_⟩⟩
    · rcases List.mem_append.1 hz with hz | hz
      · exact h2 z hz
      · rw [List.mem_singleton.1 hz]
        omega
    · rw [Pgs_snoc] at hu
      by_cases hlt : j < k
      · rw [List.getElem?_append_left (by rw [Pgs_length]; omega)] at hu
        obtain ⟨_, e, _, hcc⟩ := h3.2 (by omega)
        cases e
        exact hcc j u hu
      · have hj := (List.getElem?_eq_some_iff.1 hu).1
        rw [List.length_append, Pgs_length] at hj
        simp at hj
        obtain rfl : j = k := by omega
        rw [List.getElem?_append_right (by rw [Pgs_length]; omega), Pgs_length, h1, Nat.sub_self] at hu
        simp at hu
        rw [← hu]
        exact hc

theorem weightsAll_mem {H : Type} {P : Program} {e : TypeId} : ∀ {l : List (DataW H)} {d : DataW H}, d ∈ l → ∀ {m : Nat}, m ∈ d.weights P e → m ∈ DataW.weightsAll P e l
  | [], d, h, _, _ => by cases h
  | x :: l, d, h, m, hm => by
    unfold DataW.weightsAll
    rcases List.mem_cons.1 h with rfl | h
    · exact List.mem_append_left _ hm
    · exact List.mem_append_right _ (weightsAll_mem h hm)

set_option maxRecDepth 10000 in
theorem fraws_of_trod {H : Type} {enc : TypeId × Value → H} {w : World} {fuel : Nat} {cs : List Value} {x : DataW H × List MemPlace}
    (h : DataW.trod enc Try.prog w 0 (fun _ => true) true fuel 62 cs = some x) :
    ∃ (A : Option Addr) (n c : Nat), cs = [.slice A n c] ∧ n ≤ c ∧ c ≤ maxLen ∧ ∃ rs, Recs w w.heap.size A n rs ∧ Caps w A n c rs ∧ FROk rs ∧
      ((∀ m ∈ x.1.weights Try.prog 62, m ≤ reachBytes) → n ≤ 4398046511103 ∧ ∀ r ∈ rs, r.2.length ≤ 35184372088831) := by
  have hC : Try.prog.cellsOf 84 = 2 := by kernel_rfl
  rcases open_slice Try.underlying62 h with ⟨hcs, _⟩ | ⟨a, len, cap, m, n, D, Pl, hcs, hb, hl, hm, hmm, hx, hi⟩
  · exact ⟨none, 0, 0, hcs, Nat.le_refl _, Nat.zero_le _, [], ⟨rfl, by simp⟩, ⟨⟨Nat.le_refl _, by omega⟩, by simp⟩, (by intro r hr; cases hr), fun _ => ⟨by omega, by intro r hr; cases hr⟩⟩
  · refine ⟨some a, len, cap, hcs, hl, hm, ?_⟩
    subst hx
    have key : ∀ i, i < len → ∃ (r : FRc) (Ap : Option Addr) (np cp : Nat), (r.1 < 18446744073709551616 ∧ ∀ y ∈ r.2, y < 4294967296) ∧ RcAt w w.heap.size (a.add (i * 2)) r Ap np cp ∧ np ≤ cp ∧ cp ≤ 9223372036854775807 ∧ ((∀ m ∈ (D i).weights Try.prog 84, m ≤ reachBytes) → r.2.length ≤ 35184372088831) := by
      intro i hlt
      obtain ⟨cs', hc, ht'⟩ := hi i (by rw [hmm]; simp; omega)
      rw [hC] at hc
      obtain ⟨ys, n', hn', hy, hlen, hyl, hf⟩ := DataW.trod_struct Try.underlying84 ht'
      rw [hC] at hlen
      obtain ⟨_, hcl, hat⟩ := World.cells?_some hc
      match cs', hlen, hat, hf with
      | [c0, c1], _, hat, hf =>
        have g0 : DataW.trod enc Try.prog w 0 (fun _ => true) true n' 63 (([c0, c1].drop 0).take (Try.prog.cellsOf 63)) = ys[0]? := hf 0 _ rfl
        have g1 : DataW.trod enc Try.prog w 0 (fun _ => true) true n' 82 (([c0, c1].drop 1).take (Try.prog.cellsOf 82)) = ys[1]? := hf 1 _ rfl
        have q0 := hat 0 (by decide)
        have q1 := hat 1 (by decide)
        have s0 : ys[0]? = some (ys[0]'(by rw [hyl]; decide)) := List.getElem?_eq_getElem _
        have s1 : ys[1]? = some (ys[1]'(by rw [hyl]; decide)) := List.getElem?_eq_getElem _
        have k0 : Try.prog.cellsOf 63 = 1 := by kernel_rfl
        have k1 : Try.prog.cellsOf 82 = 1 := by kernel_rfl
        have k2 : Try.prog.cellsOf 61 = 1 := by kernel_rfl
        rw [s0] at g0
        rw [s1] at g1
        rw [k0] at g0
        rw [k1] at g1
        simp only [List.drop_zero, List.drop_succ_cons, List.take_succ_cons, List.take_zero] at g0 g1
        obtain ⟨v0, e0, _, w0⟩ := DataW.trod_int Try.underlying63 g0
        have hwt : ∀ m ∈ (ys[1]'(by rw [hyl]; decide)).1.weights Try.prog 82, m ∈ (D i).weights Try.prog 84 := fun m hm => by
          have hD : D i = .agg (ys.map (·.1)) := congrArg Prod.fst hy
          rw [hD]
          unfold DataW.weights
          rw [Try.underlying84]
          exact DataW.weights_mem_each (j := 1) rfl (by rw [List.getElem?_map, s1]; rfl) m hm
        obtain ⟨A1, n1, c1', e3, hnc, hcm, pl, hpl, hP, hW4⟩ : ∃ (A1 : Option Addr) (n1 c1' : Nat), c1 = .slice A1 n1 c1' ∧ n1 ≤ c1' ∧ c1' ≤ 9223372036854775807 ∧ ∃ pl : List Nat, (∀ y ∈ pl, y < 4294967296) ∧ Reads w w.heap.size 1 A1 n1 (Pgs pl) ∧ ((∀ m ∈ (ys[1]'(by rw [hyl]; decide)).1.weights Try.prog 82, m ≤ reachBytes) → pl.length ≤ 35184372088831) := by
          rcases open_ints Try.underlying82 Try.underlying61 k2 g1 with ⟨hc3, _⟩ | ⟨y, l, c, zs, hc3, _, hl, hm, hz, hxx, hcell, hwz⟩
          · exact ⟨none, 0, 0, by simpa using hc3, Nat.le_refl _, by omega, [], by simp, ⟨rfl, fun h => absurd h (by omega)⟩, fun _ => by simp⟩
          · obtain ⟨pl, h1, h2, h3⟩ := pgs_of_row (w := w) (x := y) (len := l) (zs := zs) (by simp at hz; omega) hcell hwz l (Nat.le_refl _)
            refine ⟨some y, l, c, by simpa using hc3, hl, by unfold maxLen at hm; omega, pl, h2, h3, fun hw => ?_⟩
            have hb4 : Try.prog.bytesOf 61 = 4 := by kernel_rfl
            have := hw (zs.length * 4) (by
              rw [congrArg Prod.fst hxx]
              unfold DataW.weights
              rw [Try.underlying82]
              refine List.mem_cons.2 (.inl ?_)
              simp [lits, hb4]
              omega)
            unfold reachBytes at this
            simp at hz
            omega
        have e0' : c0 = _ := List.head_eq_of_cons_eq e0
        rw [e0'] at q0
        rw [e3] at q1
        have q0' : w.cell? (a.add (i * 2)) = some (.int .u64 v0) := by rw [Addr.add_zero'] at q0; exact q0
        have b0 := bounds_u64 w0
        obtain ⟨x0, rfl⟩ := Int.eq_ofNat_of_zero_le b0.1
        have hbl := World.block_lt_of_cell? w _ q0'
        exact ⟨(x0, pl), A1, n1, c1', ⟨by show x0 < _; omega, hpl⟩, ⟨hbl, q0', q1, hP⟩, hnc, hcm, fun hh => hW4 fun m hm => hh m (hwt m hm)⟩
    clear hi hb
    have : ∀ n, n ≤ len → ∃ rs : List FRc, Recs w w.heap.size (some a) n rs ∧ (∀ (i : Nat) (r : FRc), rs[i]? = some r → ∃ ad Ap np cp, some a = some ad ∧ w.cell? ((ad.add (i * 2)).add 1) = some (.slice Ap np cp) ∧ np ≤ cp ∧ cp ≤ 9223372036854775807) ∧ FROk rs ∧ ((∀ i, i < len → ∀ m ∈ (D i).weights Try.prog 84, m ≤ reachBytes) → ∀ r ∈ rs, r.2.length ≤ 35184372088831) := by
      intro n
      induction n with
      | zero => intro _; exact ⟨[], ⟨rfl, by simp⟩, by simp, (by intro r hr; cases hr), fun _ r hr => by cases hr⟩
      | succ n ih =>
        intro hn
        obtain ⟨rs, h1, h2, h3, h4⟩ := ih (by omega)
        have h1l := h1.1
        obtain ⟨r, Ap, np, cp, hr, hrc, hnp, hcp, hwr⟩ := key n (by omega)
        have spl : ∀ (i : Nat) (r' : FRc), (rs ++ [r])[i]? = some r' → rs[i]? = some r' ∨ (i = n ∧ r' = r) := fun i r' hi => by
          by_cases hlt : i < rs.length
          · rw [List.getElem?_append_left hlt] at hi
            exact .inl hi
          · have hlen := (List.getElem?_eq_some_iff.1 hi).1
            simp at hlen
            obtain rfl : i = rs.length := by omega
            simp at hi
            exact .inr ⟨h1l, hi.symm⟩
        refine ⟨rs ++ [r], ⟨by simp [h1l], fun i r' hi => ?_⟩, fun i r' hi => ?_, fun x hx => ?_, fun hh x hx => ?_⟩
        · rcases spl i r' hi with hi | ⟨rfl, rfl⟩
          · exact h1.2 i r' hi
          · exact ⟨a, Ap, np, cp, rfl, hrc⟩
        · rcases spl i r' hi with hi | ⟨rfl, rfl⟩
          · exact h2 i r' hi
          · exact ⟨a, Ap, np, cp, rfl, hrc.2.2.1, hnp, hcp⟩
        · rcases List.mem_append.1 hx with hx | hx
          · exact h3 x hx
          · rw [List.mem_singleton.1 hx]
            exact hr
        · rcases List.mem_append.1 hx with hx | hx
          · exact h4 hh x hx
          · rw [List.mem_singleton.1 hx]
            exact hwr (hh n (by omega))
    obtain ⟨rs, h1, h2, h3, h4⟩ := this len (Nat.le_refl _)
    refine ⟨rs, h1, ⟨⟨hl, by unfold maxLen at hm; omega⟩, h2⟩, h3, fun hw => ⟨?_, h4 fun i hi m hmm => hw m ?_⟩⟩
    · have hb4 : Try.prog.bytesOf 84 = 32 := by kernel_rfl
      have := hw ((len + (m - len)) * 32) (by
        unfold DataW.weights
        rw [Try.underlying62]
        refine List.mem_cons.2 (.inl ?_)
        simp [hb4])
      unfold reachBytes at this
      omega
    · unfold DataW.weights
      rw [Try.underlying62]
      refine List.mem_cons_of_mem _ (List.mem_append_left _ ?_)
      exact weightsAll_mem (List.mem_map.2 ⟨i, List.mem_range.2 hi, rfl⟩) hmm

end Go.Proofs.Ythijobbhpbklmaa
