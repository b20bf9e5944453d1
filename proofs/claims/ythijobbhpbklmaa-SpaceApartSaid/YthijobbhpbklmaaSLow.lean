/- The lowest page of a set. -/
import Derived.Test.YthijobbhpbklmaaSIter
namespace Go.Proofs.Ythijobbhpbklmaa
open Go.RowKit
set_option linter.unusedVariables false
set_option linter.unusedSimpArgs false

theorem pcollect_any (w : World) (Bm b : Nat) (S : List Nat) (hBm : Bm < w.heap.size) (hm : w.cell? ⟨Bm, 0, none⟩ = some (.map (some b))) (h : MSet w b S) (hS : S.length ≤ 1000000) :
    Calls Try.prog 78 #[.func (.func 85) #[] #[.pointer (some ⟨Bm, 0, none⟩)]] w fun e w' => ∃ (v : Value) (ss : List Nat), e = .returned v ∧ (ss.Nodup ∧ ∀ x, x ∈ ss ↔ x ∈ S) ∧ w'.ownsRow w.heap.size 73 1 v ss.length (ss.map encP) ∧ Below w.heap.size w w' := by
  have hc := pappend_any w Bm b S hBm hm h hS
  go_enter Try.func78, Try.ntmps78
  go_wp2_with fail
  refine hc.mono ?_
  rintro e w' ⟨v, ss, rfl, h1, h2, h3⟩
  go_wp2_with fail
  go_ret
  exact ⟨v, ss, rfl, h1, h2, h3⟩
/-- The least of some numbers. -/
def minL : Nat → List Nat → Nat
  | m, [] => m
  | m, x :: l => minL (min m x) l
theorem minL_snoc (m : Nat) (l : List Nat) (x : Nat) : minL m (l ++ [x]) = min (minL m l) x := by
  induction l generalizing m with
  | nil => rfl
  | cons y l ih => exact ih _
theorem minL_le (m : Nat) (l : List Nat) : minL m l ≤ m ∧ ∀ x ∈ l, minL m l ≤ x := by
  induction l generalizing m with
  | nil => exact ⟨Nat.le_refl _, fun x hx => by cases hx⟩
  | cons y l ih =>
    obtain ⟨h1, h2⟩ := ih (min m y)
    refine ⟨Nat.le_trans h1 (Nat.min_le_left _ _), fun x hx => ?_⟩
    rcases List.mem_cons.1 hx with rfl | hx
    · exact Nat.le_trans h1 (Nat.min_le_right _ _)
    · exact h2 x hx
theorem minL_mem (m : Nat) (l : List Nat) : minL m l = m ∨ minL m l ∈ l := by
  induction l generalizing m with
  | nil => exact .inl rfl
  | cons y l ih =>
    rcases ih (min m y) with h | h
    · rcases Nat.le_total m y with c | c
      · rw [minL, h, Nat.min_eq_left c]; exact .inl rfl
      · rw [minL, h, Nat.min_eq_right c]; exact .inr List.mem_cons_self
    · exact .inr (List.mem_cons_of_mem _ h)
set_option maxRecDepth 100000 in
theorem pmin_any (w : World) (A : Addr) (B c : Nat) (p : Nat) (l : List Nat) (hn : l.length ≤ 1000000000) (hr : Reads w B 1 (some A) (p :: l).length ((p :: l).map encP)) (hp : ∀ x ∈ p :: l, x < 4294967296) :
    Calls Try.prog 77 #[.slice (some A) (p :: l).length c] w fun e w' => e = .returned (.int .u32 (minL p l : Int)) ∧ w = w' := by
  have hcell : ∀ (j x : Nat), (p :: l)[j]? = some x → w.cell? (A.add j) = some (.int .u32 (x : Int)) := fun j x hx => by
    obtain ⟨ad, u, ea, hb, hu, hc⟩ := hr.at_ (k := j) (List.getElem?_eq_some_iff.1 hx).1
    cases ea
    rw [List.getElem?_map, hx] at hu
    cases hu
    exact hc
  have c0 := hcell 0 p rfl
  rw [Addr.add_zero'] at c0
  have hlen : (p :: l).length = l.length + 1 := rfl
  rw [hlen]
  obtain ⟨n, hn'⟩ : ∃ n, l.length = n := ⟨_, rfl⟩
  rw [hn'] at hn ⊢
  have HN := Lib.hid hn'
  have d1 : decide (((n + 1 : Nat) : Int) < 1) = false := decide_eq_false (by omega)
  have d1' : decide ((n : Int) + 1 < 1) = false := decide_eq_false (by omega)
  have HC := Lib.hid hcell
  have HP := Lib.hid hp
  clear hr hn' hlen hcell hp
  go_enter Try.func77, Try.ntmps77
  go_wp2_with fail
  clear c0
  go_loopw [3, 4] (fun m i wr => ∃ k : Nat, k ≤ n ∧ m = .int .u32 ((minL p (l.take k) : Nat) : Int) ∧ i = .int .i64 ((k : Int) + 1) ∧ wr = w) (fun _ i _ => n + 1 - (intOf i).toNat)
  case atStart => exact ⟨0, Nat.zero_le _, by simp [minL], rfl, rfl⟩
  case round =>
    obtain ⟨k, hk, rfl, rfl, rfl⟩ := hrel
    by_cases hlt : k < n
    · obtain ⟨x, hx⟩ : ∃ x, l[k]? = some x := ⟨_, List.getElem?_eq_getElem (by rw [HN.out]; exact hlt)⟩
      have cx := HC.out (k + 1) x (by simpa using hx)
      rw [show A.add (k + 1) = ⟨A.block, A.off + (k + 1), none⟩ from by unfold Addr.add; rw [if_neg (by omega)]] at cx
      have hms := minL_snoc p (l.take k) x
      rw [← (show l.take (k + 1) = l.take k ++ [x] from by rw [List.take_add_one, hx]; rfl)] at hms
      obtain ⟨m, hm⟩ : ∃ m, minL p (l.take k) = m := ⟨_, rfl⟩
      rw [hm] at hms ⊢
      have hmi : (if (x : Int) < (m : Int) then (x : Int) else (m : Int)) = ((minL p (l.take (k + 1)) : Nat) : Int) := by
        rw [hms]
        split <;> omega
      have HV := Lib.hid (show Value.int .u32 (if x < m then (x : Int) else (m : Int)) = .int .u32 ((minL p (l.take (k + 1)) : Nat) : Int) from by rw [← hmi]; congr 1; split <;> split <;> omega)
      clear hms hx hmi
      have d2 : decide ((k : Int) + 1 < (n : Int) + 1) = true := decide_eq_true (by omega)
      go_wp2_with fail
      exact ⟨⟨k + 1, by omega, HV.out, by go_num, trivial⟩, by simp [intOf]; omega⟩
    · obtain rfl : k = n := by omega
      have hall : l.take k = l := List.take_of_length_le (by rw [HN.out]; exact Nat.le_refl _)
      rw [hall]
      have d2 : decide ((k : Int) + 1 < (k : Int) + 1) = false := decide_eq_false (by omega)
      go_wp2_with fail
      go_ret
      exact ⟨rfl, rfl⟩
/-- The least of a set that isn't empty. -/
def minS : List Nat → Nat
  | [] => 0
  | x :: l => minL x l
theorem minS_mem {S : List Nat} (h : S ≠ []) : minS S ∈ S ∧ ∀ x ∈ S, minS S ≤ x := by
  cases S with
  | nil => exact absurd rfl h
  | cons y l =>
    obtain ⟨h1, h2⟩ := minL_le y l
    refine ⟨?_, fun x hx => ?_⟩
    · rcases minL_mem y l with h | h
      · rw [minS, h]; exact List.mem_cons_self
      · exact List.mem_cons_of_mem _ h
    · rcases List.mem_cons.1 hx with rfl | hx
      · exact h1
      · exact h2 x hx
theorem minS_same {S T : List Nat} (h : ∀ x, x ∈ S ↔ x ∈ T) (hS : S ≠ []) : minS S = minS T := by
  have hT : T ≠ [] := by
    intro e
    subst e
    cases S with
    | nil => exact hS rfl
    | cons y l => exact absurd ((h y).1 List.mem_cons_self) (by simp)
  obtain ⟨a1, a2⟩ := minS_mem hS
  obtain ⟨b1, b2⟩ := minS_mem hT
  exact Nat.le_antisymm (a2 _ ((h _).2 b1)) (b2 _ ((h _).1 a1))
theorem MSet.len_run {w : World} {b : Nat} {S : List Nat} (h : MSet w b S) : ∃ (n : Nat) (D : DataW Unit), w.ownsMap Try.prog 73 unitElem b n D ∧ Maps.size D = S.length := by
  obtain ⟨_, n, D, h1, h2, _⟩ := h
  exact ⟨n, D, h1, h2⟩
set_option maxRecDepth 100000 in
theorem lowest_any (w : World) (b : Nat) (S : List Nat) (h : MSet w b S) (hS : S.length ≤ 1000000) (hp : ∀ x ∈ S, x < 4294967296) :
    Calls Try.prog 68 #[.map (some b)] w fun e w' => (e = .returned (if S = [] then .tuple #[.int .u32 0, .bool false] else .tuple #[.int .u32 (minS S : Int), .bool true])) ∧ Below w.heap.size w w' := by
  obtain ⟨nn, D0, hown, hsz⟩ := h.len_run
  by_cases he : S = []
  · subst he
    rw [if_pos rfl]
    have hz : Maps.size D0 = 0 := hsz
    go_enter Try.func68, Try.ntmps68
    go_wp2_with (first | (at_len; refine wpList_len_own _ rfl _ 141 rfl 73 108 Try.underlying141 _ b nn D0 rfl hown ?_; rw [hz]))
    go_ret2
    exact ⟨rfl, Below.refl _ _⟩
  · rw [if_neg he]
    obtain ⟨n, hn⟩ : ∃ n, S.length = n := ⟨_, rfl⟩
    have hpos : 0 < n := by rw [← hn]; exact List.length_pos_iff.2 he
    rw [hn] at hsz hS
    have h0 : ((n : Int) == 0) = false := by simp; omega
    have h0' : (n == 0) = false := by simp; omega
    have hm1 : MSet (w.alloc (.cells #[.map (some b)] 141)) b S := h.below ((Below.refl _ w).alloc (Nat.le_refl _) _) h.lt
    have hc1 : (w.alloc (.cells #[.map (some b)] 141)).cell? ⟨w.heap.size, 0, none⟩ = some (.map (some b)) := blk_cell (heap_alloc_new w _) 0
    have hcol := pcollect_any (w.alloc (.cells #[.map (some b)] 141)) w.heap.size b S (by simp) hc1 hm1 (by omega)
    have hb1 : Below w.heap.size w (w.alloc (.cells #[.map (some b)] 141)) := (Below.refl _ w).alloc (Nat.le_refl _) _
    have HE := Lib.hid he
    have hmN := h
    have HMN := Lib.hid hmN.1
    clear hmN h hm1 hc1 he
    go_enter Try.func68, Try.ntmps68
    go_wp2_with (first | (at_len; refine wpList_len_own _ rfl _ 141 rfl 73 108 Try.underlying141 _ b nn D0 rfl hown ?_; rw [hsz]) | (go_at_call 79; refine (pkeys_any _ _).mono ?_; rintro e w' ⟨rfl, rfl⟩))
    refine hcol.mono ?_
    rintro e w2 ⟨v, ss, rfl, ⟨hnd, hmem⟩, hown2, hb2⟩
    cases ss with
    | nil =>
      exfalso
      obtain ⟨y, hy⟩ := List.exists_mem_of_ne_nil S HE.out
      exact absurd ((hmem y).2 hy) (by simp)
    | cons p l =>
      obtain ⟨A2, c2, rfl⟩ := own_slice hown2
      have hr := Reads.of_own hown2
      obtain ⟨A3, rfl⟩ : ∃ A3, A2 = some A3 := by
        obtain ⟨ad, e, _⟩ := hr.2 (by simp)
        exact ⟨ad, e⟩
      have hlen : (p :: l).length = n := by
        rw [← hn]
        exact (List.perm_ext_iff_of_nodup hnd HMN.out).2 (fun x => hmem x) |>.length_eq
      have hmin := pmin_any w2 A3 w2.heap.size c2 p l (by have : (p :: l).length = l.length + 1 := rfl; omega) hr (fun x hx => hp x ((hmem x).1 hx))
      have HSA := Lib.hid (minS_same hmem (by simp))
      have HMI := Lib.hid hmin
      clear hlen hmin hown2 hr
      go_wp2_with fail
      refine HMI.out.mono ?_
      rintro e w3 ⟨rfl, rfl⟩
      go_wp2_with fail
      go_ret2
      exact ⟨by rw [← HSA.out]; rfl, hb1.trans (hb2.mono (by simp))⟩
end Go.Proofs.Ythijobbhpbklmaa
