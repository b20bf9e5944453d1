/- Layer 3's reference: what it answers (its walks are printed by the kit's printer). -/
import Derived.Test.YthijobbhpbklmaaFromA
import Derived.Test.YthijobbhpbklmaaPDiskPlaysx3
import Derived.Test.YthijobbhpbklmaaPDiskPlaysx4
namespace Go.Proofs.Ythijobbhpbklmaa
open Go.RowKit Go.Proofs.YthijobbhpbklmaaW.PrintWords Go.Proofs.Ythijobbhpbklmaa.PDiskPlays
set_option linter.unusedVariables false
set_option linter.unusedSimpArgs false

def bs (l : List UInt8) : ByteArray := ⟨l.toArray⟩
theorem bs_size (l : List UInt8) : (bs l).size = l.length := by simp [bs, ByteArray.size]
theorem bs_list (l : List UInt8) : (bs l).toList = l := by
  have : ∀ (a : ByteArray), a.toList = a.data.toList := fun a => by
    simp [ByteArray.toList_eq]
  rw [this]; rfl
theorem bs_inj {a b : List UInt8} (h : bs a = bs b) : a = b := by
  have := congrArg (fun x => x.data.toList) h
  simpa [bs] using this
theorem bs_append (a b : List UInt8) : bs a ++ bs b = bs (a ++ b) := by
  apply ByteArray.ext
  simp [bs]
theorem bs_extract (l : List UInt8) (i j : Nat) : (bs l).extract i j = bs ((l.take j).drop i) := by
  apply ByteArray.ext
  simp [bs, ByteArray.data_extract, List.drop_take]
def bl (l : List (List UInt8)) : List ByteArray := l.map bs
def wl (L : List (Nat × List UInt8)) : List S135 := L.map fun x => ⟨(x.1 : Int), bs x.2⟩
theorem bl_length (l : List (List UInt8)) : (bl l).length = l.length := by simp [bl]
theorem wl_length (l : List (Nat × List UInt8)) : (wl l).length = l.length := by simp [wl]
theorem rd_wl {L : List (Nat × List UInt8)} {i : Nat} {x : Nat × List UInt8} (h : L[i]? = some x) : rd_T135 (wl L) (i : Int) = ⟨(x.1 : Int), bs x.2⟩ := by
  simp [rd_T135, wl, List.getD, h]

theorem r_new_ok {size limit : Nat} (h : NewOk (size : Int) (limit : Int)) : rubricatorref03_New.f size limit = some ((size : Int), (limit : Int), [], [], -1, 0, 0) := by
  obtain ⟨h1, h2, h3, h4, h5⟩ := h
  have hm : Int.tmod (size : Int) 128 = 0 := by rw [Int.tmod_eq_emod_of_nonneg (by omega)]; exact h3
  unfold rubricatorref03_New.f
  rw [if_neg (by omega), if_neg (by omega), if_pos hm, if_neg (by omega), if_neg (by omega)]
theorem r_new_no {S L : Int} (h : ¬ NewOk S L) : rubricatorref03_New.f S L = some (0, 0, [], [], 0, 0, 1) := by
  unfold rubricatorref03_New.f
  by_cases h1 : S < 512
  · rw [if_pos h1]
  rw [if_neg h1]
  by_cases h2 : S > 4096
  · rw [if_pos h2]
  rw [if_neg h2]
  by_cases h3 : Int.tmod S 128 = 0
  · rw [if_pos h3]
    by_cases h4 : L < 1
    · rw [if_pos h4]
    rw [if_neg h4]
    rw [if_pos]
    rw [Int.tmod_eq_emod_of_nonneg (by omega)] at h3
    unfold NewOk at h
    omega
  · rw [if_neg h3]
/-- A disk as the reference's. -/
def Dk.t (D : Dk) : Int × Int × List ByteArray × List S135 × Int × Int := (D.size, D.limit, bl D.good, wl D.loose, D.fails, D.calls)

theorem r_count {D : Dk} (h : D.OK) (hc : D.calls < 1000000000) : rubricatorref03_count.f D.size D.limit (bl D.good) (wl D.loose) D.fails D.calls = some ((D.size : Int), (D.limit : Int), bl D.good, wl D.loose, D.count.fails, (D.count.calls : Int), D.err) := by
  have h1 := h.f1
  have h2 := h.f2
  have e1 : wrap64 ((D.calls : Int) + 1) = ((D.count.calls : Nat) : Int) := by
    show wrap64 ((D.calls : Int) + 1) = ((D.calls + 1 : Nat) : Int)
    unfold wrap64; omega
  have e3 : D.count.fails = if D.fails = -1 then -1 else D.fails - 1 := rfl
  unfold rubricatorref03_count.f
  rw [e1, e3]
  unfold Dk.err
  by_cases c1 : D.fails < 0
  · have : D.fails = -1 := by omega
    rw [if_pos c1, if_pos this, if_neg (by omega), this]
  · have e2 : wrap64 (D.fails - 1) = D.fails - 1 := by unfold wrap64; omega
    rw [if_neg c1, if_neg (show ¬ D.fails = -1 by omega), e2]
    by_cases c2 : D.fails = 0
    · rw [if_pos c2, if_pos (by omega)]
    · rw [if_neg c2, if_neg (by omega)]

theorem r_from_l0 (size : Nat) (hs : 0 < size) (hs2 : size ≤ 4096) (x2 x3 : Int) (L : List S135) (x5 x6 : Int) : ∀ (q : Nat) (l : List UInt8) (g : List ByteArray), l.length = q * size → g.length + q ≤ 1000000 →
    rubricatorref03_From.l0 (q + 1) (bs l) size x2 x3 g L x5 x6 = some (x2, x3, g ++ bl ((List.range q).map (chL l size)), L, x5, x6, 0) := by
  intro q
  induction q with
  | zero =>
    intro l g hl _
    obtain rfl : l = [] := List.eq_nil_of_length_eq_zero (by omega)
    rw [rubricatorref03_From.l0, if_pos (bs_list [])]
    simp [bl]
  | succ q ih =>
    intro l g hl hg
    have hl2 : l.length = q * size + size := by rw [hl, Nat.add_mul, Nat.one_mul]
    have hne : ¬ (bs l).toList = [] := by
      rw [bs_list]
      intro e
      rw [e] at hl2
      simp at hl2
      omega
    rw [rubricatorref03_From.l0, if_neg hne, if_pos (by omega), if_pos (by rw [bs_size]; omega), if_pos (by omega)]
    rw [bs_size, Int.toNat_natCast, bs_extract, bs_extract, List.take_length, List.drop_zero]
    rw [ih (l.drop size) _ (by rw [List.length_drop, hl2]; omega) (by rw [List.length_append, List.length_singleton]; omega)]
    congr 3
    rw [List.append_assoc, List.range_succ_eq_map, List.map_cons, List.map_map]
    have e0 : chL l size 0 = l.take size := by simp [chL]
    have e1 : (List.range q).map (chL (l.drop size) size) = (List.range q).map (chL l size ∘ Nat.succ) := by
      apply List.map_congr_left
      intro i _
      simp only [chL, Function.comp, List.drop_drop]
      congr 2
      rw [Nat.succ_mul, Nat.add_comm]
    rw [e0, e1]
    rfl
theorem r_from_ok {size limit : Nat} (h : NewOk (size : Int) (limit : Int)) (l : List UInt8) (h1 : l.length % size = 0) (h2 : l.length / size ≤ limit) (hl : l.length ≤ 1000000) :
    ∃ k, rubricatorref03_From.f k (bs l) size limit = some ((size : Int), (limit : Int), bl (dFrom size limit l).good, [], -1, 0, 0) := by
  have hn := h
  obtain ⟨g1, g2, g3, g4, g5⟩ := h
  obtain ⟨q, hq⟩ : ∃ q, l.length / size = q := ⟨_, rfl⟩
  have hlq : l.length = q * size := by have := Nat.div_add_mod l.length size; rw [h1, hq, Nat.mul_comm] at this; omega
  refine ⟨q + 1 + 1, ?_⟩
  unfold rubricatorref03_From.f
  rw [r_new_ok hn]
  simp only [Option.bind_some]
  have hm : ((bs l).size : Int) % (size : Int) = 0 := by rw [bs_size]; exact_mod_cast h1
  rw [if_pos trivial, if_neg (by omega), if_pos hm]
  have hd : decide (wrap64 (((bs l).size : Int) / (size : Int)) > (limit : Int)) = false := by
    apply decide_eq_false
    rw [bs_size, show ((l.length : Int) / (size : Int)) = (q : Int) from by rw [← hq]; rfl]
    have : wrap64 (q : Int) = q := by unfold wrap64; omega
    rw [this]
    omega
  rw [hd, rubricatorref03_From.j0, if_neg (by simp), r_from_l0 size (by omega) (by omega) _ _ _ _ _ q l [] hlq (by simp; omega)]
  show some _ = some _
  rw [List.nil_append]
  unfold dFrom
  rw [hq]
theorem r_from_no {S L : Int} (l : List UInt8) (hl : l.length ≤ 1000000) (h : ¬ (NewOk S L ∧ (l.length : Int) % S = 0 ∧ (l.length : Int) / S ≤ L)) : ∃ k, rubricatorref03_From.f k (bs l) S L = some (0, 0, [], [], 0, 0, 1) := by
  refine ⟨1, ?_⟩
  unfold rubricatorref03_From.f
  by_cases hn : NewOk S L
  · obtain ⟨g1, g2, g3, g4, g5⟩ := id hn
    obtain ⟨s, rfl⟩ := Int.eq_ofNat_of_zero_le (show 0 ≤ S by omega)
    obtain ⟨m, rfl⟩ := Int.eq_ofNat_of_zero_le (show 0 ≤ L by omega)
    rw [r_new_ok hn]
    simp only [Option.bind_some]
    rw [if_pos trivial, if_neg (by omega), bs_size]
    by_cases hm : (l.length : Int) % (s : Int) = 0
    · rw [if_pos hm]
      have hq : (l.length : Int) / (s : Int) ≤ l.length := Int.ediv_le_self _ (by omega)
      have hq0 : 0 ≤ (l.length : Int) / (s : Int) := Int.ediv_nonneg (by omega) (by omega)
      have hd : decide (wrap64 ((l.length : Int) / (s : Int)) > (m : Int)) = true := by
        apply decide_eq_true
        have : wrap64 ((l.length : Int) / (s : Int)) = (l.length : Int) / (s : Int) := by unfold wrap64; omega
        rw [this]
        rcases Int.lt_or_le (m : Int) ((l.length : Int) / (s : Int)) with c | c
        · exact c
        · exact absurd ⟨hn, hm, c⟩ h
      rw [hd, rubricatorref03_From.j0, if_pos rfl]
    · rw [if_neg hm, rubricatorref03_From.j0, if_pos rfl]
  · rw [r_new_no hn]
    simp only [Option.bind_some]
    rw [if_neg (by decide), rubricatorref03_From.j0, if_pos rfl]

/-! each call as a plain step -/
def Dk.sGrow (D : Dk) (N : Int) : Dk × Int := if N < D.good.length then (D, 1) else if (D.limit : Int) < N then (D, 21) else if D.fails = 0 then (D.count, 20) else (D.count.grown N.toNat, 0)
def Dk.sWrite (D : Dk) (I : Int) (b : List UInt8) : Dk × Int := if 0 ≤ I ∧ I < D.good.length then (if b.length = D.size then (if D.fails = 0 then (D.count, 20) else (D.count.written I.toNat b, 0)) else (D, 1)) else (D, 15)
def Dk.sRead (D : Dk) (I : Int) : Dk × List UInt8 × Int := if 0 ≤ I ∧ I < D.good.length then (if D.fails = 0 then (D.count, [], 20) else (D.count, D.look I.toNat, 0)) else (D, [], 15)
def Dk.sSync (D : Dk) : Dk × Int := if D.fails = 0 then (D.count, 20) else (D.count.synced, 0)

theorem GrowP.uni {w w' : World} {base : Nat} {ok : Nat → Prop} {p : Nat} {D : Dk} {N : Int} {e : Ending} (hD : DiskAt w base ok p D) (h : GrowP w base ok p D N e w') : e = .returned (.int .i64 (D.sGrow N).2) ∧ DiskAt w' base ok p (D.sGrow N).1 ∧ Fr ok w w' := by
  unfold Dk.sGrow
  rcases h with ⟨h1, rfl, rfl⟩ | ⟨h1, h2, rfl, rfl⟩ | ⟨h1, h2, h3, rfl, h4, h5⟩ | ⟨h1, h2, h3, rfl, h4, h5⟩
  · rw [if_pos h1]; exact ⟨rfl, hD, Fr.refl _ _⟩
  · rw [if_neg (by omega), if_pos h2]; exact ⟨rfl, hD, Fr.refl _ _⟩
  · rw [if_neg (by omega), if_neg (by omega), if_pos h3]; exact ⟨rfl, h4, h5⟩
  · rw [if_neg (by omega), if_neg (by omega), if_neg h3]; exact ⟨rfl, h4, h5⟩
theorem WriteP.uni {w w' : World} {base : Nat} {ok : Nat → Prop} {p : Nat} {D : Dk} {I : Int} {b : List UInt8} {e : Ending} (hD : DiskAt w base ok p D) (h : WriteP w base ok p D I b e w') : e = .returned (.int .i64 (D.sWrite I b).2) ∧ DiskAt w' base ok p (D.sWrite I b).1 ∧ Fr ok w w' := by
  unfold Dk.sWrite
  rcases h with ⟨h1, rfl, rfl⟩ | ⟨h1, h2, rfl, rfl⟩ | ⟨h1, h2, h3, rfl, h4, h5⟩ | ⟨h1, h2, h3, rfl, h4, h5⟩
  · rw [if_neg h1]; exact ⟨rfl, hD, Fr.refl _ _⟩
  · rw [if_pos h1, if_neg h2]; exact ⟨rfl, hD, Fr.refl _ _⟩
  · rw [if_pos h1, if_pos h2, if_pos h3]; exact ⟨rfl, h4, h5⟩
  · rw [if_pos h1, if_pos h2, if_neg h3]; exact ⟨rfl, h4, h5⟩
theorem SyncP.uni {w w' : World} {base : Nat} {ok : Nat → Prop} {p : Nat} {D : Dk} {e : Ending} (h : SyncP w base ok p D e w') : e = .returned (.int .i64 D.sSync.2) ∧ DiskAt w' base ok p D.sSync.1 ∧ Fr ok w w' := by
  unfold Dk.sSync
  rcases h with ⟨h1, rfl, h2, h3⟩ | ⟨h1, rfl, h2, h3⟩
  · rw [if_pos h1]; exact ⟨rfl, h2, h3⟩
  · rw [if_neg h1]; exact ⟨rfl, h2, h3⟩

/-! the reference's -/
theorem wl_snoc (L : List (Nat × List UInt8)) (i : Nat) (b : List UInt8) : wl (L ++ [(i, b)]) = wl L ++ [⟨(i : Int), bs b⟩] := by simp [wl]
theorem bl_append (a b : List (List UInt8)) : bl (a ++ b) = bl a ++ bl b := by simp [bl]
theorem bl_set (a : List (List UInt8)) (i : Nat) (b : List UInt8) : (bl a).set i (bs b) = bl (a.set i b) := by simp [bl, List.map_set]
theorem str_zeros (n : Nat) : strOfNums (List.replicate n 0) = bs (zeros n) := by
  apply ByteArray.ext
  simp [strOfNums, bs, zeros, List.map_replicate]
theorem err_ne {D : Dk} (h : D.fails = 0) : D.err = 20 := by unfold Dk.err; rw [if_pos h]
theorem err_eq {D : Dk} (h : D.fails ≠ 0) : D.err = 0 := by unfold Dk.err; rw [if_neg h]
theorem r_grow_l0 (S L F C : Int) (hS : 0 ≤ S) (hS2 : S ≤ 4096) (n : Int) (hn : n ≤ 65536) (W : List S135) (g0 : List ByteArray) : ∀ (m : Nat) (g : List ByteArray), (g.length : Int) + m = n →
    rubricatorref03_Grow.l0 (m + 1) n g S L g0 W F C = some (S, L, g ++ List.replicate m (bs (zeros S.toNat)), W, F, C, 0) := by
  intro m
  induction m with
  | zero =>
    intro g h
    rw [rubricatorref03_Grow.l0, if_neg (by omega)]
    simp
  | succ m ih =>
    intro g h
    rw [rubricatorref03_Grow.l0, if_pos (by omega), if_pos hS, if_pos (by omega), if_pos (by omega), ih _ (by rw [List.length_append, List.length_singleton]; omega)]
    rw [str_zeros, List.append_assoc]
    rfl
theorem r_grow {D : Dk} (h : D.OK) (hc : D.calls < 1000000000) (N : Int) : ∃ k, rubricatorref03_Grow.f k D.size D.limit (bl D.good) (wl D.loose) D.fails D.calls N =
    some (((D.sGrow N).1.size : Int), ((D.sGrow N).1.limit : Int), bl (D.sGrow N).1.good, wl (D.sGrow N).1.loose, (D.sGrow N).1.fails, ((D.sGrow N).1.calls : Int), (D.sGrow N).2) := by
  have hl2 := h.l2
  have hg1 := h.g1
  have hs2 := h.s2
  refine ⟨(N - D.good.length).toNat + 1, ?_⟩
  unfold rubricatorref03_Grow.f Dk.sGrow
  rw [bl_length]
  by_cases c1 : N < D.good.length
  · rw [if_pos c1, if_pos c1]
  rw [if_neg c1, if_neg c1]
  by_cases c2 : (D.limit : Int) < N
  · rw [if_pos c2, if_pos c2]
  rw [if_neg c2, if_neg c2, r_count h hc]
  simp only [Option.bind_some]
  by_cases c3 : D.fails = 0
  · rw [if_pos c3, err_ne c3, if_neg (by decide)]
    rfl
  rw [if_neg c3, err_eq c3, if_pos rfl, if_pos (by rw [bl_length, List.length_nil]; omega)]
  rw [List.nil_append, r_grow_l0 _ _ _ _ (by omega) (by omega) N (by omega) _ _ _ _ (by rw [bl_length]; omega)]
  show some _ = some ((D.size : Int), (D.limit : Int), bl (D.good ++ List.replicate (N.toNat - D.good.length) (zeros D.size)), _)
  rw [bl_append, Int.toNat_natCast, show (N - (D.good.length : Int)).toNat = N.toNat - D.good.length by omega]
  have e : bl (List.replicate (N.toNat - D.good.length) (zeros D.size)) = List.replicate (N.toNat - D.good.length) (bs (zeros D.size)) := by simp [bl, List.map_replicate]
  rw [e]
  rfl
theorem r_write {D : Dk} (h : D.OK) (hc : D.calls < 1000000000) (hlo : D.loose.length ≤ 1000000000) (I : Int) (b : List UInt8) : ∃ k, rubricatorref03_Write.f k D.size D.limit (bl D.good) (wl D.loose) D.fails D.calls I (bs b) =
    some (((D.sWrite I b).1.size : Int), ((D.sWrite I b).1.limit : Int), bl (D.sWrite I b).1.good, wl (D.sWrite I b).1.loose, (D.sWrite I b).1.fails, ((D.sWrite I b).1.calls : Int), (D.sWrite I b).2) := by
  refine ⟨1, ?_⟩
  unfold rubricatorref03_Write.f Dk.sWrite
  rw [bl_length]
  by_cases c0 : I < 0
  · rw [if_pos c0, rubricatorref03_Write.j0, if_pos rfl, if_neg (by omega)]
  rw [if_neg c0]
  by_cases c1 : I ≥ (D.good.length : Int)
  · rw [decide_eq_true c1, rubricatorref03_Write.j0, if_pos rfl, if_neg (by omega)]
  rw [decide_eq_false c1, rubricatorref03_Write.j0, if_neg (by simp), if_pos (show 0 ≤ I ∧ I < D.good.length from ⟨by omega, by omega⟩), bs_size]
  by_cases c2 : b.length = D.size
  · rw [if_pos (by rw [c2]), if_pos c2, r_count h hc]
    simp only [Option.bind_some]
    by_cases c3 : D.fails = 0
    · rw [if_pos c3, err_ne c3, if_neg (by decide)]
      rfl
    rw [if_neg c3, err_eq c3, if_pos rfl, List.nil_append, if_pos (by rw [wl_length, List.length_nil]; omega), if_pos (by rw [wl_length]; omega)]
    show _ = some ((D.size : Int), (D.limit : Int), bl D.good, wl (D.loose ++ [(I.toNat, b)]), _)
    rw [wl_snoc, show ((I.toNat : Nat) : Int) = I by omega]
    rfl
  · rw [if_neg (by omega), if_neg c2]
theorem lookIn_none (l : List (Nat × List UInt8)) (i : Nat) (b : List UInt8) (h : ∀ x ∈ l, x.1 ≠ i) : lookIn l i b = b := by
  induction l generalizing b with
  | nil => rfl
  | cons x l ih =>
    rw [lookIn, if_neg (h x List.mem_cons_self)]
    exact ih b (fun y hy => h y (List.mem_cons_of_mem _ hy))
theorem r_look_l0 (S L F C : Int) (i : Nat) (good : List (List UInt8)) (hi : i < good.length) (loose : List (Nat × List UInt8)) (hl : loose.length ≤ 1000000000) : ∀ m, m ≤ loose.length →
    rubricatorref03_Look.l0 (m + 1) i ((m : Int) - 1) S L (bl good) (wl loose) F C = some (bs (lookIn (loose.take m) i (good.getD i []))) := by
  intro m
  induction m with
  | zero =>
    intro _
    rw [rubricatorref03_Look.l0, if_neg (by omega), if_pos (by omega), if_pos (by rw [bl_length]; omega)]
    rw [List.take_zero]
    show some (rdOf ByteArray.empty (bl good) (i : Int)) = some (bs (good.getD i []))
    congr 1
    simp [rdOf, bl, List.getD, List.getElem?_eq_getElem hi]
  | succ m ih =>
    intro hm
    obtain ⟨x, hx⟩ : ∃ x, loose[m]? = some x := ⟨_, List.getElem?_eq_getElem (by omega)⟩
    have e0 : ((m + 1 : Nat) : Int) - 1 = (m : Int) := by omega
    rw [rubricatorref03_Look.l0, e0, if_pos (by omega), if_pos (by omega), if_pos (by rw [wl_length]; omega), rd_wl hx]
    rw [take_succ_some hx, lookIn_snoc]
    by_cases c : x.1 = i
    · rw [if_pos (by rw [c]), if_pos c]
    · rw [if_neg (show ¬ ((x.1 : Int) = (i : Int)) by omega), if_neg c]
      have : wrap64 ((m : Int) - 1) = (m : Int) - 1 := by unfold wrap64; omega
      rw [this]
      exact ih (by omega)
theorem r_read {D : Dk} (h : D.OK) (hc : D.calls < 1000000000) (hlo : D.loose.length ≤ 1000000000) (I : Int) : ∃ k, rubricatorref03_Read.f k D.size D.limit (bl D.good) (wl D.loose) D.fails D.calls I =
    some (((D.sRead I).1.size : Int), ((D.sRead I).1.limit : Int), bl (D.sRead I).1.good, wl (D.sRead I).1.loose, (D.sRead I).1.fails, ((D.sRead I).1.calls : Int), bs (D.sRead I).2.1, (D.sRead I).2.2) := by
  refine ⟨D.loose.length + 1 + 1, ?_⟩
  unfold rubricatorref03_Read.f Dk.sRead
  rw [bl_length]
  by_cases c0 : I < 0
  · rw [if_pos c0, rubricatorref03_Read.j0, if_pos rfl, if_neg (by omega)]
    rfl
  rw [if_neg c0]
  by_cases c1 : I ≥ (D.good.length : Int)
  · rw [decide_eq_true c1, rubricatorref03_Read.j0, if_pos rfl, if_neg (by omega)]
    rfl
  rw [decide_eq_false c1, rubricatorref03_Read.j0, if_neg (by simp), if_pos (show 0 ≤ I ∧ I < D.good.length from ⟨by omega, by omega⟩), r_count h hc]
  simp only [Option.bind_some]
  by_cases c3 : D.fails = 0
  · rw [if_pos c3, err_ne c3, if_neg (by decide)]
    rfl
  rw [if_neg c3, err_eq c3, if_pos rfl]
  unfold rubricatorref03_Look.f
  obtain ⟨i, rfl⟩ := Int.eq_ofNat_of_zero_le (show 0 ≤ I by omega)
  have e : wrap64 (((wl D.loose).length : Int) - 1) = (D.loose.length : Int) - 1 := by rw [wl_length]; unfold wrap64; omega
  rw [e, r_look_l0 _ _ _ _ i D.good (by omega) D.loose hlo D.loose.length (Nat.le_refl _), List.take_length]
  rfl
theorem r_set2 (l : List ByteArray) (i : Int) (x : ByteArray) (h1 : ([] : List ByteArray).length + l.length < 8796093022208) (h2 : 0 ≤ i) (h3 : i < ((([] : List ByteArray) ++ l).length : Int)) : rubricatorref03_set.f l i x = some ((([] : List ByteArray) ++ l).set i.toNat x) := by
  have e : ∀ (o : Option (List ByteArray)), (if ([] : List ByteArray).length + l.length < 8796093022208 then o else none) = o := fun o => if_pos h1
  have e2 : ∀ (o : Option (List ByteArray)), (if 0 ≤ i then o else none) = o := fun o => if_pos h2
  have e3 : ∀ (o : Option (List ByteArray)), (if i < ((([] : List ByteArray) ++ l).length : Int) then o else none) = o := fun o => if_pos h3
  refine Eq.trans (show rubricatorref03_set.f l i x = (if ([] : List ByteArray).length + l.length < 8796093022208 then (if 0 ≤ i then (if i < ((([] : List ByteArray) ++ l).length : Int) then (some ((([] : List ByteArray) ++ l).set i.toNat x)) else none) else none) else none) from rfl) ?_
  rw [e, e2, e3]
theorem r_set {g : List (List UInt8)} {i : Nat} (hi : i < g.length) (hg : g.length ≤ 65536) (b : List UInt8) : rubricatorref03_set.f (bl g) i (bs b) = some (bl (g.set i b)) := by
  have := r_set2 (bl g) i (bs b) (by rw [bl_length, List.length_nil]; omega) (by omega) (by rw [List.nil_append, bl_length]; omega)
  rw [this, Int.toNat_natCast, List.nil_append, bl_set]
theorem r_sync_l0 (S L F C : Int) (loose : List (Nat × List UInt8)) (hlo : loose.length ≤ 1000000000) (n : Nat) (hn : n ≤ 65536) (hl : ∀ x ∈ loose, x.1 < n) : ∀ (m i : Nat) (g : List (List UInt8)), i + m = loose.length → g.length = n →
    rubricatorref03_Sync.l0 (m + 1) i S L (bl g) (wl loose) F C = some (S, L, bl (laid g (loose.drop i)), [], F, C, 0) := by
  intro m
  induction m with
  | zero =>
    intro i g hi hg
    rw [rubricatorref03_Sync.l0, if_neg (by rw [wl_length]; omega), List.drop_of_length_le (by omega)]
    rfl
  | succ m ih =>
    intro i g hi hg
    obtain ⟨x, hx⟩ : ∃ x, loose[i]? = some x := ⟨_, List.getElem?_eq_getElem (by omega)⟩
    have hxn := hl x (List.mem_of_getElem? hx)
    have e : wrap64 ((i : Int) + 1) = ((i + 1 : Nat) : Int) := by unfold wrap64; omega
    have hr := rd_wl hx
    have r0 : (rd_T135 (wl loose) (i : Int)).f0 = (x.1 : Int) := by rw [hr]
    have r1 : (rd_T135 (wl loose) (i : Int)).f1 = bs x.2 := by rw [hr]
    rw [rubricatorref03_Sync.l0, if_pos (by rw [wl_length]; omega), if_pos (by omega), r0, r1, r_set (by omega) (by omega), Option.bind_some, e, ih (i + 1) _ (by omega) (by rw [List.length_set]; exact hg)]
    have : loose.drop i = x :: loose.drop (i + 1) := by
      obtain ⟨h1, rfl⟩ := List.getElem?_eq_some_iff.1 hx
      exact List.drop_eq_getElem_cons h1
    rw [this, laid]
theorem r_sync {D : Dk} (h : D.OK) (hc : D.calls < 1000000000) (hlo : D.loose.length ≤ 1000000000) : ∃ k, rubricatorref03_Sync.f k D.size D.limit (bl D.good) (wl D.loose) D.fails D.calls =
    some ((D.sSync.1.size : Int), (D.sSync.1.limit : Int), bl D.sSync.1.good, wl D.sSync.1.loose, D.sSync.1.fails, (D.sSync.1.calls : Int), D.sSync.2) := by
  have hl2 := h.l2
  have hg1 := h.g1
  refine ⟨D.loose.length + 1, ?_⟩
  unfold rubricatorref03_Sync.f Dk.sSync
  rw [r_count h hc]
  simp only [Option.bind_some]
  by_cases c3 : D.fails = 0
  · rw [if_pos c3, err_ne c3, if_neg (by decide)]
    rfl
  rw [if_neg c3, err_eq c3, if_pos rfl]
  have := r_sync_l0 D.size D.limit D.count.fails D.count.calls D.loose hlo D.good.length (by omega) (fun x hx => (h.o1 x hx).1) D.loose.length 0 D.good (by omega) rfl
  rw [show ((0 : Nat) : Int) = 0 from rfl] at this
  rw [this]
  rfl
theorem r_fail (D : Dk) (a : Int) : rubricatorref03_Fail.f D.size D.limit (bl D.good) (wl D.loose) D.fails D.calls a = some ((D.size : Int), (D.limit : Int), bl D.good, wl D.loose, (D.failed a).fails, (D.calls : Int)) := by
  unfold rubricatorref03_Fail.f
  show _ = some (_, _, _, _, (if a < -1 then -1 else a), _)
  by_cases c : a < 0
  · rw [if_pos c]
    by_cases c2 : a < -1
    · rw [if_pos c2]
    · rw [if_neg c2, show a = -1 by omega]
  · rw [if_neg c, if_neg (by omega)]
end Go.Proofs.Ythijobbhpbklmaa
