/- Pairs gathered: the runs; records that may be are gathered as they were. Plain lemmas. -/
import Derived.Test.YthmkmojlnfkfjaaSRight
import Derived.Test.YthmkmojlnfkfjaaFAll
namespace Go.Proofs.Ythmkmojlnfkfjaa
set_option linter.unusedVariables false
set_option linter.unusedSimpArgs false

/-- The runs of pairs, each as a record, but for those that go on from prev. -/
def runs : Option Nat → List FP → List FRc
  | _, [] => []
  | prev, p :: l => if prev = some p.1 then runs (some p.1) l else (p.1, p.2 :: (l.takeWhile fun q => q.1 == p.1).map (·.2)) :: runs (some p.1) l
theorem ga_fold (l : List FP) : ∀ (init : List FRc) (t : Nat) (pl : List Nat), l.foldl gaStep (init ++ [(t, pl)]) = init ++ [(t, pl ++ (l.takeWhile fun q => q.1 == t).map (·.2))] ++ runs (some t) l := by
  induction l with
  | nil => intro init t pl; simp [runs]
  | cons p l ih =>
    intro init t pl
    rw [List.foldl_cons]
    by_cases h : t = p.1
    · rw [gaStep_same _ _ _ _ h, ih]
      subst h
      simp [runs, List.takeWhile_cons]
    · rw [gaStep_new _ _ _ _ h, ih]
      have h' : ¬ p.1 = t := fun e => h e.symm
      simp [runs, List.takeWhile_cons, h, h']
theorem fGa_runs (l : List FP) : fGa l = runs none l := by
  cases l with
  | nil => rfl
  | cons p l =>
    unfold fGa
    rw [List.foldl_cons, gaStep_nil, ga_fold]
    simp [runs]
/-- Records rise, none is empty. -/
def FStrict (rs : List FRc) : Prop := (∀ r ∈ rs, r.2 ≠ []) ∧ ∀ i p q, rs[i]? = some p → rs[i + 1]? = some q → p.1 ≠ q.1
theorem ga_rec (t : Nat) (xs : List Nat) : ∀ (init : List FRc) (pl : List Nat), (xs.map fun x => (t, x)).foldl gaStep (init ++ [(t, pl)]) = init ++ [(t, pl ++ xs)] := by
  induction xs with
  | nil => intro init pl; simp
  | cons x xs ih =>
    intro init pl
    rw [List.map_cons, List.foldl_cons, gaStep_same init t pl (t, x) rfl, ih]
    simp
theorem ga_new (rs : List FRc) (t : Nat) (x : Nat) (h : ∀ r, rs.getLast? = some r → r.1 ≠ t) : gaStep rs (t, x) = rs ++ [(t, [x])] := by
  rcases List.eq_nil_or_concat rs with rfl | ⟨init, r, rfl⟩
  · rfl
  · have h1 : r.1 ≠ t := h r (by simp)
    obtain ⟨a, b⟩ := r
    rw [List.concat_eq_append]
    rw [gaStep_new init a b (t, x) h1]
    simp
theorem ga_flat (rs : List FRc) : ∀ done : List FRc, FStrict (done ++ rs) → (fFl rs).foldl gaStep done = done ++ rs := by
  induction rs with
  | nil => intro done _; simp [fFl]
  | cons r rs ih =>
    intro done h
    obtain ⟨t, pl⟩ := r
    obtain ⟨x, xs, rfl⟩ : ∃ x xs, pl = x :: xs := by
      cases pl with
      | nil => exact absurd rfl (h.1 (t, []) (by simp))
      | cons x xs => exact ⟨x, xs, rfl⟩
    have e : fFl ((t, x :: xs) :: rs) = (t, x) :: ((xs.map fun y => (t, y)) ++ fFl rs) := by simp [fFl]
    have hl : ∀ r, done.getLast? = some r → r.1 ≠ t := fun r hr => by
      rw [List.getLast?_eq_getElem?] at hr
      have hlt := (List.getElem?_eq_some_iff.1 hr).1
      exact h.2 (done.length - 1) r (t, x :: xs) (by rw [List.getElem?_append_left hlt]; exact hr) (by rw [show done.length - 1 + 1 = done.length by omega, List.getElem?_append_right (Nat.le_refl _)]; simp)
    rw [e, List.foldl_cons, ga_new _ _ _ hl, List.foldl_append, ga_rec, ih]
    · simp
    · simpa using h
/-- Records that are strict are gathered as they were. -/
theorem fGa_flat (rs : List FRc) (h : FStrict rs) : fGa (fFl rs) = rs := ga_flat rs [] h
theorem SpRight.strict {rs : List FRc} {e : Nat} (h : SpRight rs e) : FStrict rs :=
  ⟨fun r hr => by
    obtain ⟨i, hi, rfl⟩ := List.getElem_of_mem hr
    exact (h i _ (List.getElem?_eq_getElem hi)).1, fun i p q hp hq => by
    have := (h (i + 1) q hq).2.1 p (by omega) hp
    omega⟩
theorem rpAll_len (rs : List FRc) (N M : Nat) (h1 : rs.length ≤ N) (h2 : ∀ r ∈ rs, r.2.length ≤ M) : (rpAll rs).length ≤ N * M := by
  induction rs generalizing N with
  | nil => simp [rpAll]
  | cons r rs ih =>
    obtain ⟨n, rfl⟩ : ∃ n, N = n + 1 := ⟨N - 1, by simp at h1; omega⟩
    have h3 := ih n (by simpa using h1) (fun x hx => h2 x (by simp [hx]))
    have h4 := h2 r (by simp)
    simp only [rpAll, List.flatMap_cons, List.length_append] at h3 ⊢
    rw [Nat.succ_mul]
    omega
theorem fFl_length (rs : List FRc) : (fFl rs).length = (rpAll rs).length := by
  induction rs with
  | nil => rfl
  | cons r rs ih =>
    simp only [fFl, rpAll, List.flatMap_cons, List.length_append, List.length_map] at ih ⊢
    omega
end Go.Proofs.Ythmkmojlnfkfjaa
