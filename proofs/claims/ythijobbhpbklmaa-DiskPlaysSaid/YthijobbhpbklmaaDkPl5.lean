/- DRef; DRefC; DRefW -/
import Derived.Test.YthijobbhpbklmaaDkPl4
import Derived.Test.YthijobbhpbklmaaPDiskPlaysx3
import Derived.Test.YthijobbhpbklmaaPDiskPlaysx4
import Derived.Deep.DeepCutAuto
set_option linter.unusedVariables false
set_option linter.unusedSimpArgs false
/- Layer 3's reference: what it answers (its walks are printed by the kit's printer). -/
namespace Go.Proofs.Ythijobbhpbklmaa
open Go.RowKit Go.Proofs.YthijobbhpbklmaaW.PrintWords Go.Proofs.Ythijobbhpbklmaa.PDiskPlays
def bs (l : List UInt8) : ByteArray := ⟨l.toArray⟩
theorem bs_size (l : List UInt8) : (bs l).size = l.length := by simp [bs, ByteArray.size]
theorem bs_list (l : List UInt8) : (bs l).toList = l := by
  have : ∀ (a : ByteArray), a.toList = a.data.toList := fun a => by
    simp [ByteArray.toList_eq]
  rw [this]; rfl
theorem bs_append (a b : List UInt8) : bs a ++ bs b = bs (a ++ b) := by
  apply ByteArray.ext
  simp [bs]
theorem bs_extract (l : List UInt8) (i j : Nat) : (bs l).extract i j = bs ((l.take j).drop i) := by
  apply ByteArray.ext
  simp [bs, ByteArray.data_extract, List.drop_take]
def bl (l : List (List UInt8)) : List ByteArray := l.map bs
def wl (L : List (Nat × List UInt8)) : List S135 := L.map fun x => ⟨(x.1 : Int), bs x.2⟩
theorem bl_length (l : List (List UInt8)) : (bl l).length = l.length := by simp [bl]
theorem wl_length (l : List (Nat × List UInt8)) : (wl l).length = l.length := by simp [wl]
theorem rd_wl {L : List (Nat × List UInt8)} {i : Nat} {x : Nat × List UInt8} (h : L[i]? = some x) : rd_T135 (wl L) (i : Int) = ⟨(x.1 : Int), bs x.2⟩ := by
  simp [rd_T135, wl, List.getD, h]
theorem r_new_ok {size limit : Nat} (h : NewOk (size : Int) (limit : Int)) : rubricatorref03_New.f size limit = some ((size : Int), (limit : Int), [], [], -1, 0, 0) := by
  obtain ⟨h1, h2, h3, h4, h5⟩ := h
  have hm : Int.tmod (size : Int) 128 = 0 := by rw [Int.tmod_eq_emod_of_nonneg (by omega)]; exact h3
  unfold rubricatorref03_New.f
  rw [if_neg (by omega), if_neg (by omega), if_pos hm, if_neg (by omega), if_neg (by omega)]
theorem r_new_no {S L : Int} (h : ¬ NewOk S L) : rubricatorref03_New.f S L = some (0, 0, [], [], 0, 0, 1) := by
  unfold rubricatorref03_New.f
  by_cases h1 : S < 512
  · rw [if_pos h1]
  rw [if_neg h1]
  by_cases h2 : S > 4096
  · rw [if_pos h2]
  rw [if_neg h2]
  by_cases h3 : Int.tmod S 128 = 0
  · rw [if_pos h3]
    by_cases h4 : L < 1
    · rw [if_pos h4]
    rw [if_neg h4]
    rw [if_pos]
    rw [Int.tmod_eq_emod_of_nonneg (by omega)] at h3
    unfold NewOk at h
    omega
  · rw [if_neg h3]
def Dk.t (D : Dk) : Int × Int × List ByteArray × List S135 × Int × Int := (D.size, D.limit, bl D.good, wl D.loose, D.fails, D.calls)
theorem r_count {D : Dk} (h : D.OK) (hc : D.calls < 1000000000) : rubricatorref03_count.f D.size D.limit (bl D.good) (wl D.loose) D.fails D.calls = some ((D.size : Int), (D.limit : Int), bl D.good, wl D.loose, D.count.fails, (D.count.calls : Int), D.err) := by
  have h1 := h.f1
  have h2 := h.f2
  have e1 : wrap64 ((D.calls : Int) + 1) = ((D.count.calls : Nat) : Int) := by
    show wrap64 ((D.calls : Int) + 1) = ((D.calls + 1 : Nat) : Int)
    unfold wrap64; omega
  have e3 : D.count.fails = if D.fails = -1 then -1 else D.fails - 1 := rfl
  unfold rubricatorref03_count.f
  rw [e1, e3]
  unfold Dk.err
  by_cases c1 : D.fails < 0
  · have : D.fails = -1 := by omega
    rw [if_pos c1, if_pos this, if_neg (by omega), this]
  · have e2 : wrap64 (D.fails - 1) = D.fails - 1 := by unfold wrap64; omega
    rw [if_neg c1, if_neg (show ¬ D.fails = -1 by omega), e2]
    by_cases c2 : D.fails = 0
    · rw [if_pos c2, if_pos (by omega)]
    · rw [if_neg c2, if_neg (by omega)]
theorem r_from_l0 (size : Nat) (hs : 0 < size) (hs2 : size ≤ 4096) (x2 x3 : Int) (L : List S135) (x5 x6 : Int) : ∀ (q : Nat) (l : List UInt8) (g : List ByteArray), l.length = q * size → g.length + q ≤ 1000000 →
    rubricatorref03_From.l0 (q + 1) (bs l) size x2 x3 g L x5 x6 = some (x2, x3, g ++ bl ((List.range q).map (chL l size)), L, x5, x6, 0) := by
  intro q
  induction q with
  | zero =>
    intro l g hl _
    obtain rfl : l = [] := List.eq_nil_of_length_eq_zero (by omega)
    rw [rubricatorref03_From.l0, if_pos (bs_list [])]
    simp [bl]
  | succ q ih =>
    intro l g hl hg
    have hl2 : l.length = q * size + size := by rw [hl, Nat.add_mul, Nat.one_mul]
    have hne : ¬ (bs l).toList = [] := by
      rw [bs_list]
      intro e
      rw [e] at hl2
      simp at hl2
      omega
    rw [rubricatorref03_From.l0, if_neg hne, if_pos (by omega), if_pos (by rw [bs_size]; omega), if_pos (by omega)]
    rw [bs_size, Int.toNat_natCast, bs_extract, bs_extract, List.take_length, List.drop_zero]
    rw [ih (l.drop size) _ (by rw [List.length_drop, hl2]; omega) (by rw [List.length_append, List.length_singleton]; omega)]
    congr 3
    rw [List.append_assoc, List.range_succ_eq_map, List.map_cons, List.map_map]
    have e0 : chL l size 0 = l.take size := by simp [chL]
    have e1 : (List.range q).map (chL (l.drop size) size) = (List.range q).map (chL l size ∘ Nat.succ) := by
      apply List.map_congr_left
      intro i _
      simp only [chL, Function.comp, List.drop_drop]
      congr 2
      rw [Nat.succ_mul, Nat.add_comm]
    rw [e0, e1]
    rfl
theorem r_from_ok {size limit : Nat} (h : NewOk (size : Int) (limit : Int)) (l : List UInt8) (h1 : l.length % size = 0) (h2 : l.length / size ≤ limit) (hl : l.length ≤ 1000000) :
    ∃ k, rubricatorref03_From.f k (bs l) size limit = some ((size : Int), (limit : Int), bl (dFrom size limit l).good, [], -1, 0, 0) := by
  have hn := h
  obtain ⟨g1, g2, g3, g4, g5⟩ := h
  obtain ⟨q, hq⟩ : ∃ q, l.length / size = q := ⟨_, rfl⟩
  have hlq : l.length = q * size := by have := Nat.div_add_mod l.length size; rw [h1, hq, Nat.mul_comm] at this; omega
  refine ⟨q + 1 + 1, ?_⟩
  unfold rubricatorref03_From.f
  rw [r_new_ok hn]
  simp only [Option.bind_some]
  have hm : ((bs l).size : Int) % (size : Int) = 0 := by rw [bs_size]; exact_mod_cast h1
  rw [if_pos trivial, if_neg (by omega), if_pos hm]
  have hd : decide (wrap64 (((bs l).size : Int) / (size : Int)) > (limit : Int)) = false := by
    apply decide_eq_false
    rw [bs_size, show ((l.length : Int) / (size : Int)) = (q : Int) from by rw [← hq]; rfl]
    have : wrap64 (q : Int) = q := by unfold wrap64; omega
    rw [this]
    omega
  rw [hd, rubricatorref03_From.j0, if_neg (by simp), r_from_l0 size (by omega) (by omega) _ _ _ _ _ q l [] hlq (by simp; omega)]
  show some _ = some _
  rw [List.nil_append]
  unfold dFrom
  rw [hq]
theorem r_from_no {S L : Int} (l : List UInt8) (hl : l.length ≤ 1000000) (h : ¬ (NewOk S L ∧ (l.length : Int) % S = 0 ∧ (l.length : Int) / S ≤ L)) : ∃ k, rubricatorref03_From.f k (bs l) S L = some (0, 0, [], [], 0, 0, 1) := by
  refine ⟨1, ?_⟩
  unfold rubricatorref03_From.f
  by_cases hn : NewOk S L
  · obtain ⟨g1, g2, g3, g4, g5⟩ := id hn
    obtain ⟨s, rfl⟩ := Int.eq_ofNat_of_zero_le (show 0 ≤ S by omega)
    obtain ⟨m, rfl⟩ := Int.eq_ofNat_of_zero_le (show 0 ≤ L by omega)
    rw [r_new_ok hn]
    simp only [Option.bind_some]
    rw [if_pos trivial, if_neg (by omega), bs_size]
    by_cases hm : (l.length : Int) % (s : Int) = 0
    · rw [if_pos hm]
      have hq : (l.length : Int) / (s : Int) ≤ l.length := Int.ediv_le_self _ (by omega)
      have hq0 : 0 ≤ (l.length : Int) / (s : Int) := Int.ediv_nonneg (by omega) (by omega)
      have hd : decide (wrap64 ((l.length : Int) / (s : Int)) > (m : Int)) = true := by
        apply decide_eq_true
        have : wrap64 ((l.length : Int) / (s : Int)) = (l.length : Int) / (s : Int) := by unfold wrap64; omega
        rw [this]
        rcases Int.lt_or_le (m : Int) ((l.length : Int) / (s : Int)) with c | c
        · exact c
        · exact absurd ⟨hn, hm, c⟩ h
      rw [hd, rubricatorref03_From.j0, if_pos rfl]
    · rw [if_neg hm, rubricatorref03_From.j0, if_pos rfl]
  · rw [r_new_no hn]
    simp only [Option.bind_some]
    rw [if_neg (by decide), rubricatorref03_From.j0, if_pos rfl]
/-! each call as a plain step -/
def Dk.sGrow (D : Dk) (N : Int) : Dk × Int := if N < D.good.length then (D, 1) else if (D.limit : Int) < N then (D, 21) else if D.fails = 0 then (D.count, 20) else (D.count.grown N.toNat, 0)
def Dk.sWrite (D : Dk) (I : Int) (b : List UInt8) : Dk × Int := if 0 ≤ I ∧ I < D.good.length then (if b.length = D.size then (if D.fails = 0 then (D.count, 20) else (D.count.written I.toNat b, 0)) else (D, 1)) else (D, 15)
def Dk.sRead (D : Dk) (I : Int) : Dk × List UInt8 × Int := if 0 ≤ I ∧ I < D.good.length then (if D.fails = 0 then (D.count, [], 20) else (D.count, D.look I.toNat, 0)) else (D, [], 15)
def Dk.sSync (D : Dk) : Dk × Int := if D.fails = 0 then (D.count, 20) else (D.count.synced, 0)
theorem GrowP.uni {w w' : World} {base : Nat} {ok : Nat → Prop} {p : Nat} {D : Dk} {N : Int} {e : Ending} (hD : DiskAt w base ok p D) (h : GrowP w base ok p D N e w') : e = .returned (.int .i64 (D.sGrow N).2) ∧ DiskAt w' base ok p (D.sGrow N).1 ∧ Fr ok w w' := by
  unfold Dk.sGrow
  rcases h with ⟨h1, rfl, rfl⟩ | ⟨h1, h2, rfl, rfl⟩ | ⟨h1, h2, h3, rfl, h4, h5⟩ | ⟨h1, h2, h3, rfl, h4, h5⟩
  · rw [if_pos h1]; exact ⟨rfl, hD, Fr.refl _ _⟩
  · rw [if_neg (by omega), if_pos h2]; exact ⟨rfl, hD, Fr.refl _ _⟩
  · rw [if_neg (by omega), if_neg (by omega), if_pos h3]; exact ⟨rfl, h4, h5⟩
  · rw [if_neg (by omega), if_neg (by omega), if_neg h3]; exact ⟨rfl, h4, h5⟩
theorem WriteP.uni {w w' : World} {base : Nat} {ok : Nat → Prop} {p : Nat} {D : Dk} {I : Int} {b : List UInt8} {e : Ending} (hD : DiskAt w base ok p D) (h : WriteP w base ok p D I b e w') : e = .returned (.int .i64 (D.sWrite I b).2) ∧ DiskAt w' base ok p (D.sWrite I b).1 ∧ Fr ok w w' := by
  unfold Dk.sWrite
  rcases h with ⟨h1, rfl, rfl⟩ | ⟨h1, h2, rfl, rfl⟩ | ⟨h1, h2, h3, rfl, h4, h5⟩ | ⟨h1, h2, h3, rfl, h4, h5⟩
  · rw [if_neg h1]; exact ⟨rfl, hD, Fr.refl _ _⟩
  · rw [if_pos h1, if_neg h2]; exact ⟨rfl, hD, Fr.refl _ _⟩
  · rw [if_pos h1, if_pos h2, if_pos h3]; exact ⟨rfl, h4, h5⟩
  · rw [if_pos h1, if_pos h2, if_neg h3]; exact ⟨rfl, h4, h5⟩
theorem SyncP.uni {w w' : World} {base : Nat} {ok : Nat → Prop} {p : Nat} {D : Dk} {e : Ending} (h : SyncP w base ok p D e w') : e = .returned (.int .i64 D.sSync.2) ∧ DiskAt w' base ok p D.sSync.1 ∧ Fr ok w w' := by
  unfold Dk.sSync
  rcases h with ⟨h1, rfl, h2, h3⟩ | ⟨h1, rfl, h2, h3⟩
  · rw [if_pos h1]; exact ⟨rfl, h2, h3⟩
  · rw [if_neg h1]; exact ⟨rfl, h2, h3⟩
/-! the reference's -/
theorem wl_snoc (L : List (Nat × List UInt8)) (i : Nat) (b : List UInt8) : wl (L ++ [(i, b)]) = wl L ++ [⟨(i : Int), bs b⟩] := by simp [wl]
theorem bl_append (a b : List (List UInt8)) : bl (a ++ b) = bl a ++ bl b := by simp [bl]
theorem bl_set (a : List (List UInt8)) (i : Nat) (b : List UInt8) : (bl a).set i (bs b) = bl (a.set i b) := by simp [bl, List.map_set]
theorem str_zeros (n : Nat) : strOfNums (List.replicate n 0) = bs (zeros n) := by
  apply ByteArray.ext
  simp [strOfNums, bs, zeros, List.map_replicate]
theorem err_ne {D : Dk} (h : D.fails = 0) : D.err = 20 := by unfold Dk.err; rw [if_pos h]
theorem err_eq {D : Dk} (h : D.fails ≠ 0) : D.err = 0 := by unfold Dk.err; rw [if_neg h]
theorem r_grow_l0 (S L F C : Int) (hS : 0 ≤ S) (hS2 : S ≤ 4096) (n : Int) (hn : n ≤ 65536) (W : List S135) (g0 : List ByteArray) : ∀ (m : Nat) (g : List ByteArray), (g.length : Int) + m = n →
    rubricatorref03_Grow.l0 (m + 1) n g S L g0 W F C = some (S, L, g ++ List.replicate m (bs (zeros S.toNat)), W, F, C, 0) := by
  intro m
  induction m with
  | zero =>
    intro g h
    rw [rubricatorref03_Grow.l0, if_neg (by omega)]
    simp
  | succ m ih =>
    intro g h
    rw [rubricatorref03_Grow.l0, if_pos (by omega), if_pos hS, if_pos (by omega), if_pos (by omega), ih _ (by rw [List.length_append, List.length_singleton]; omega)]
    rw [str_zeros, List.append_assoc]
    rfl
theorem r_grow {D : Dk} (h : D.OK) (hc : D.calls < 1000000000) (N : Int) : ∃ k, rubricatorref03_Grow.f k D.size D.limit (bl D.good) (wl D.loose) D.fails D.calls N =
    some (((D.sGrow N).1.size : Int), ((D.sGrow N).1.limit : Int), bl (D.sGrow N).1.good, wl (D.sGrow N).1.loose, (D.sGrow N).1.fails, ((D.sGrow N).1.calls : Int), (D.sGrow N).2) := by
  have hl2 := h.l2
  have hg1 := h.g1
  have hs2 := h.s2
  refine ⟨(N - D.good.length).toNat + 1, ?_⟩
  unfold rubricatorref03_Grow.f Dk.sGrow
  rw [bl_length]
  by_cases c1 : N < D.good.length
  · rw [if_pos c1, if_pos c1]
  rw [if_neg c1, if_neg c1]
  by_cases c2 : (D.limit : Int) < N
  · rw [if_pos c2, if_pos c2]
  rw [if_neg c2, if_neg c2, r_count h hc]
  simp only [Option.bind_some]
  by_cases c3 : D.fails = 0
  · rw [if_pos c3, err_ne c3, if_neg (by decide)]
    rfl
  rw [if_neg c3, err_eq c3, if_pos rfl, if_pos (by rw [bl_length, List.length_nil]; omega)]
  rw [List.nil_append, r_grow_l0 _ _ _ _ (by omega) (by omega) N (by omega) _ _ _ _ (by rw [bl_length]; omega)]
  show some _ = some ((D.size : Int), (D.limit : Int), bl (D.good ++ List.replicate (N.toNat - D.good.length) (zeros D.size)), _)
  rw [bl_append, Int.toNat_natCast, show (N - (D.good.length : Int)).toNat = N.toNat - D.good.length by omega]
  have e : bl (List.replicate (N.toNat - D.good.length) (zeros D.size)) = List.replicate (N.toNat - D.good.length) (bs (zeros D.size)) := by simp [bl, List.map_replicate]
  rw [e]
  rfl
theorem r_write {D : Dk} (h : D.OK) (hc : D.calls < 1000000000) (hlo : D.loose.length ≤ 1000000000) (I : Int) (b : List UInt8) : ∃ k, rubricatorref03_Write.f k D.size D.limit (bl D.good) (wl D.loose) D.fails D.calls I (bs b) =
    some (((D.sWrite I b).1.size : Int), ((D.sWrite I b).1.limit : Int), bl (D.sWrite I b).1.good, wl (D.sWrite I b).1.loose, (D.sWrite I b).1.fails, ((D.sWrite I b).1.calls : Int), (D.sWrite I b).2) := by
  refine ⟨1, ?_⟩
  unfold rubricatorref03_Write.f Dk.sWrite
  rw [bl_length]
  by_cases c0 : I < 0
  · rw [if_pos c0, rubricatorref03_Write.j0, if_pos rfl, if_neg (by omega)]
  rw [if_neg c0]
  by_cases c1 : I ≥ (D.good.length : Int)
  · rw [decide_eq_true c1, rubricatorref03_Write.j0, if_pos rfl, if_neg (by omega)]
  rw [decide_eq_false c1, rubricatorref03_Write.j0, if_neg (by simp), if_pos (show 0 ≤ I ∧ I < D.good.length from ⟨by omega, by omega⟩), bs_size]
  by_cases c2 : b.length = D.size
  · rw [if_pos (by rw [c2]), if_pos c2, r_count h hc]
    simp only [Option.bind_some]
    by_cases c3 : D.fails = 0
    · rw [if_pos c3, err_ne c3, if_neg (by decide)]
      rfl
    rw [if_neg c3, err_eq c3, if_pos rfl, List.nil_append, if_pos (by rw [wl_length, List.length_nil]; omega), if_pos (by rw [wl_length]; omega)]
    show _ = some ((D.size : Int), (D.limit : Int), bl D.good, wl (D.loose ++ [(I.toNat, b)]), _)
    rw [wl_snoc, show ((I.toNat : Nat) : Int) = I by omega]
    rfl
  · rw [if_neg (by omega), if_neg c2]
theorem r_look_l0 (S L F C : Int) (i : Nat) (good : List (List UInt8)) (hi : i < good.length) (loose : List (Nat × List UInt8)) (hl : loose.length ≤ 1000000000) : ∀ m, m ≤ loose.length →
    rubricatorref03_Look.l0 (m + 1) i ((m : Int) - 1) S L (bl good) (wl loose) F C = some (bs (lookIn (loose.take m) i (good.getD i []))) := by
  intro m
  induction m with
  | zero =>
    intro _
    rw [rubricatorref03_Look.l0, if_neg (by omega), if_pos (by omega), if_pos (by rw [bl_length]; omega)]
    rw [List.take_zero]
    show some (rdOf ByteArray.empty (bl good) (i : Int)) = some (bs (good.getD i []))
    congr 1
    simp [rdOf, bl, List.getD, List.getElem?_eq_getElem hi]
  | succ m ih =>
    intro hm
    obtain ⟨x, hx⟩ : ∃ x, loose[m]? = some x := ⟨_, List.getElem?_eq_getElem (by omega)⟩
    have e0 : ((m + 1 : Nat) : Int) - 1 = (m : Int) := by omega
    rw [rubricatorref03_Look.l0, e0, if_pos (by omega), if_pos (by omega), if_pos (by rw [wl_length]; omega), rd_wl hx]
    rw [take_succ_some hx, lookIn_snoc]
    by_cases c : x.1 = i
    · rw [if_pos (by rw [c]), if_pos c]
    · rw [if_neg (show ¬ ((x.1 : Int) = (i : Int)) by omega), if_neg c]
      have : wrap64 ((m : Int) - 1) = (m : Int) - 1 := by unfold wrap64; omega
      rw [this]
      exact ih (by omega)
theorem r_read {D : Dk} (h : D.OK) (hc : D.calls < 1000000000) (hlo : D.loose.length ≤ 1000000000) (I : Int) : ∃ k, rubricatorref03_Read.f k D.size D.limit (bl D.good) (wl D.loose) D.fails D.calls I =
    some (((D.sRead I).1.size : Int), ((D.sRead I).1.limit : Int), bl (D.sRead I).1.good, wl (D.sRead I).1.loose, (D.sRead I).1.fails, ((D.sRead I).1.calls : Int), bs (D.sRead I).2.1, (D.sRead I).2.2) := by
  refine ⟨D.loose.length + 1 + 1, ?_⟩
  unfold rubricatorref03_Read.f Dk.sRead
  rw [bl_length]
  by_cases c0 : I < 0
  · rw [if_pos c0, rubricatorref03_Read.j0, if_pos rfl, if_neg (by omega)]
    rfl
  rw [if_neg c0]
  by_cases c1 : I ≥ (D.good.length : Int)
  · rw [decide_eq_true c1, rubricatorref03_Read.j0, if_pos rfl, if_neg (by omega)]
    rfl
  rw [decide_eq_false c1, rubricatorref03_Read.j0, if_neg (by simp), if_pos (show 0 ≤ I ∧ I < D.good.length from ⟨by omega, by omega⟩), r_count h hc]
  simp only [Option.bind_some]
  by_cases c3 : D.fails = 0
  · rw [if_pos c3, err_ne c3, if_neg (by decide)]
    rfl
  rw [if_neg c3, err_eq c3, if_pos rfl]
  unfold rubricatorref03_Look.f
  obtain ⟨i, rfl⟩ := Int.eq_ofNat_of_zero_le (show 0 ≤ I by omega)
  have e : wrap64 (((wl D.loose).length : Int) - 1) = (D.loose.length : Int) - 1 := by rw [wl_length]; unfold wrap64; omega
  rw [e, r_look_l0 _ _ _ _ i D.good (by omega) D.loose hlo D.loose.length (Nat.le_refl _), List.take_length]
  rfl
theorem r_set2 (l : List ByteArray) (i : Int) (x : ByteArray) (h1 : ([] : List ByteArray).length + l.length < 8796093022208) (h2 : 0 ≤ i) (h3 : i < ((([] : List ByteArray) ++ l).length : Int)) : rubricatorref03_set.f l i x = some ((([] : List ByteArray) ++ l).set i.toNat x) := by
  have e : ∀ (o : Option (List ByteArray)), (if ([] : List ByteArray).length + l.length < 8796093022208 then o else none) = o := fun o => if_pos h1
  have e2 : ∀ (o : Option (List ByteArray)), (if 0 ≤ i then o else none) = o := fun o => if_pos h2
  have e3 : ∀ (o : Option (List ByteArray)), (if i < ((([] : List ByteArray) ++ l).length : Int) then o else none) = o := fun o => if_pos h3
  refine Eq.trans (show rubricatorref03_set.f l i x = (if ([] : List ByteArray).length + l.length < 8796093022208 then (if 0 ≤ i then (if i < ((([] : List ByteArray) ++ l).length : Int) then (some ((([] : List ByteArray) ++ l).set i.toNat x)) else none) else none) else none) from rfl) ?_
  rw [e, e2, e3]
theorem r_set {g : List (List UInt8)} {i : Nat} (hi : i < g.length) (hg : g.length ≤ 65536) (b : List UInt8) : rubricatorref03_set.f (bl g) i (bs b) = some (bl (g.set i b)) := by
  have := r_set2 (bl g) i (bs b) (by rw [bl_length, List.length_nil]; omega) (by omega) (by rw [List.nil_append, bl_length]; omega)
  rw [this, Int.toNat_natCast, List.nil_append, bl_set]
theorem r_sync_l0 (S L F C : Int) (loose : List (Nat × List UInt8)) (hlo : loose.length ≤ 1000000000) (n : Nat) (hn : n ≤ 65536) (hl : ∀ x ∈ loose, x.1 < n) : ∀ (m i : Nat) (g : List (List UInt8)), i + m = loose.length → g.length = n →
    rubricatorref03_Sync.l0 (m + 1) i S L (bl g) (wl loose) F C = some (S, L, bl (laid g (loose.drop i)), [], F, C, 0) := by
  intro m
  induction m with
  | zero =>
    intro i g hi hg
    rw [rubricatorref03_Sync.l0, if_neg (by rw [wl_length]; omega), List.drop_of_length_le (by omega)]
    rfl
  | succ m ih =>
    intro i g hi hg
    obtain ⟨x, hx⟩ : ∃ x, loose[i]? = some x := ⟨_, List.getElem?_eq_getElem (by omega)⟩
    have hxn := hl x (List.mem_of_getElem? hx)
    have e : wrap64 ((i : Int) + 1) = ((i + 1 : Nat) : Int) := by unfold wrap64; omega
    have hr := rd_wl hx
    have r0 : (rd_T135 (wl loose) (i : Int)).f0 = (x.1 : Int) := by rw [hr]
    have r1 : (rd_T135 (wl loose) (i : Int)).f1 = bs x.2 := by rw [hr]
    rw [rubricatorref03_Sync.l0, if_pos (by rw [wl_length]; omega), if_pos (by omega), r0, r1, r_set (by omega) (by omega), Option.bind_some, e, ih (i + 1) _ (by omega) (by rw [List.length_set]; exact hg)]
    have : loose.drop i = x :: loose.drop (i + 1) := by
      obtain ⟨h1, rfl⟩ := List.getElem?_eq_some_iff.1 hx
      exact List.drop_eq_getElem_cons h1
    rw [this, laid]
theorem r_sync {D : Dk} (h : D.OK) (hc : D.calls < 1000000000) (hlo : D.loose.length ≤ 1000000000) : ∃ k, rubricatorref03_Sync.f k D.size D.limit (bl D.good) (wl D.loose) D.fails D.calls =
    some ((D.sSync.1.size : Int), (D.sSync.1.limit : Int), bl D.sSync.1.good, wl D.sSync.1.loose, D.sSync.1.fails, (D.sSync.1.calls : Int), D.sSync.2) := by
  have hl2 := h.l2
  have hg1 := h.g1
  refine ⟨D.loose.length + 1, ?_⟩
  unfold rubricatorref03_Sync.f Dk.sSync
  rw [r_count h hc]
  simp only [Option.bind_some]
  by_cases c3 : D.fails = 0
  · rw [if_pos c3, err_ne c3, if_neg (by decide)]
    rfl
  rw [if_neg c3, err_eq c3, if_pos rfl]
  have := r_sync_l0 D.size D.limit D.count.fails D.count.calls D.loose hlo D.good.length (by omega) (fun x hx => (h.o1 x hx).1) D.loose.length 0 D.good (by omega) rfl
  rw [show ((0 : Nat) : Int) = 0 from rfl] at this
  rw [this]
  rfl
theorem r_fail (D : Dk) (a : Int) : rubricatorref03_Fail.f D.size D.limit (bl D.good) (wl D.loose) D.fails D.calls a = some ((D.size : Int), (D.limit : Int), bl D.good, wl D.loose, (D.failed a).fails, (D.calls : Int)) := by
  unfold rubricatorref03_Fail.f
  show _ = some (_, _, _, _, (if a < -1 then -1 else a), _)
  by_cases c : a < 0
  · rw [if_pos c]
    by_cases c2 : a < -1
    · rw [if_pos c2]
    · rw [if_neg c2, show a = -1 by omega]
  · rw [if_neg c, if_neg (by omega)]
end Go.Proofs.Ythijobbhpbklmaa

/- Layer 3's reference: Crash (its printed walk fell; by hand). -/
namespace Go.Proofs.Ythijobbhpbklmaa
open Go.RowKit Go.Proofs.YthijobbhpbklmaaW.PrintWords Go.Proofs.Ythijobbhpbklmaa.PDiskPlays
theorem pickB_sector (pk : UInt8) (k : Nat) : pickB pk (k / 128 * 128) = pickB pk k := by
  unfold pickB
  rw [Nat.mul_div_cancel _ (by omega)]
theorem r_bit_l0 (x1 : Nat) (hx1 : x1 ≤ 8) : ∀ (m x i : Nat), i + m = x1 → x < 256 → rubricatorref03_bit.l0 (m + 1) (x : Int) x1 i = some ((x >>> m) % 2 == 1) := by
  intro m
  induction m with
  | zero =>
    intro x i h hx
    rw [rubricatorref03_bit.l0, if_neg (by omega), Int.tmod_eq_emod_of_nonneg (by omega)]
    rw [Nat.shiftRight_zero]
    congr 1
    rcases Nat.mod_two_eq_zero_or_one x with h0 | h0
    · rw [h0, show ((x : Int) % 2) = 0 by omega]; rfl
    · rw [h0, show ((x : Int) % 2) = 1 by omega]; rfl
  | succ m ih =>
    intro x i h hx
    have e : (Int.tdiv (x : Int) 2) % 256 = ((x / 2 : Nat) : Int) := by rw [Int.tdiv_eq_ediv_of_nonneg (by omega)]; omega
    have e1 : wrap64 ((i : Int) + 1) = ((i + 1 : Nat) : Int) := by unfold wrap64; omega
    rw [rubricatorref03_bit.l0, if_pos (by omega), e, e1, ih (x / 2) (i + 1) (by omega) (by omega)]
    rw [show x >>> (m + 1) = (x / 2) >>> m from by rw [Nat.add_comm, Nat.shiftRight_add]; rfl]
theorem r_bit (pk : UInt8) (s : Nat) : rubricatorref03_bit.f (s % 8 + 1) (pk.toNat : Int) ((s % 8 : Nat) : Int) = some (pickB pk (s * 128)) := by
  unfold rubricatorref03_bit.f
  have := r_bit_l0 (s % 8) (by omega) (s % 8) pk.toNat 0 (by omega) pk.toNat_lt
  rw [show ((0 : Nat) : Int) = 0 from rfl] at this
  rw [this]
  unfold pickB
  rw [Nat.mul_div_cancel _ (by omega)]
theorem mixed_step (pk : UInt8) (old new : List UInt8) (T t : Nat) (ho : old.length = T * 128) (hn : new.length = T * 128) (ht : t < T) :
    (mixed pk old new).take ((t + 1) * 128) = (mixed pk old new).take (t * 128) ++ ((if pickB pk (t * 128) = true then new else old).take (t * 128 + 128)).drop (t * 128) := by
  have hml : (mixed pk old new).length = T * 128 := by unfold mixed; rw [mixTo_length, ho]
  have hT : (t + 1) * 128 ≤ T * 128 := Nat.mul_le_mul_right _ ht
  apply List.ext_getElem?
  intro i
  have hl1 : ((mixed pk old new).take (t * 128)).length = t * 128 := by rw [List.length_take, hml]; omega
  have hfl : (if pickB pk (t * 128) = true then new else old).length = T * 128 := by split <;> assumption
  by_cases c1 : i < t * 128
  · rw [List.getElem?_append_left (by rw [hl1]; exact c1), List.getElem?_take, List.getElem?_take, if_pos (by omega), if_pos c1]
  rw [List.getElem?_append_right (by rw [hl1]; omega), hl1, List.getElem?_drop, show t * 128 + (i - t * 128) = i by omega]
  by_cases c2 : i < (t + 1) * 128
  · rw [List.getElem?_take, List.getElem?_take, if_pos c2, if_pos (by omega), mixed_get pk old new ho (by omega)]
    have hp : pickB pk (t * 128) = pickB pk i := by
      rw [← pickB_sector pk i]
      congr 1
      omega
    rw [hp]
    by_cases c3 : pickB pk i = true
    · rw [if_pos c3, if_pos c3, List.getD, List.getElem?_eq_getElem (by omega)]
      rfl
    · rw [if_neg c3, if_neg c3, List.getD, List.getElem?_eq_getElem (by omega)]
      rfl
  · rw [List.getElem?_eq_none (by rw [List.length_take, hml]; omega), List.getElem?_eq_none (by rw [List.length_take, hfl]; omega)]
theorem mixed_length (pk : UInt8) (old new : List UInt8) : (mixed pk old new).length = old.length := by unfold mixed; exact mixTo_length _ _ _ _
theorem crashed_pages (s : Nat) : ∀ (l : List (Nat × List UInt8)) (ps : List UInt8) (g : List (List UInt8)), (∀ r ∈ g, r.length = s) → (∀ x ∈ l, x.1 < g.length) → ∀ r ∈ crashed g l ps, r.length = s := by
  intro l
  induction l with
  | nil => intro ps g h _ r hr; rw [crashed_nil] at hr; exact h r hr
  | cons x l ih =>
    intro ps g h hl
    cases ps with
    | nil => intro r hr; exact h r hr
    | cons q ps =>
      have hx := hl x List.mem_cons_self
      refine ih ps _ (fun r hr => ?_) (fun y hy => by rw [List.length_set]; exact hl y (List.mem_cons_of_mem _ hy))
      rcases List.mem_or_eq_of_mem_set hr with h1 | h1
      · exact h r h1
      · rw [h1, mixed_length]
        refine h _ ?_
        rw [List.getD, List.getElem?_eq_getElem hx]
        exact List.getElem_mem hx
end Go.Proofs.Ythijobbhpbklmaa

/- Layer 3's reference: Crash, the walk. -/
namespace Go.Proofs.Ythijobbhpbklmaa
open Go.RowKit Go.Proofs.YthijobbhpbklmaaW.PrintWords Go.Proofs.Ythijobbhpbklmaa.PDiskPlays
theorem C_str {w : World} {A : Option Addr} {n : Nat} {xs : List ByteArray} (h : Kd.C Kd.string w A n xs) {j : Nat} {s : ByteArray} (hj : xs[j]? = some s) : ∃ ad, A = some ad ∧ w.cell? (ad.add j) = some (.string s) := by
  obtain ⟨h1, h2, h3⟩ := h
  have hlt := (List.getElem?_eq_some_iff.1 hj).1
  obtain ⟨ad, e, hc⟩ := h3 (by omega)
  refine ⟨ad, e, ?_⟩
  obtain ⟨c, hcl, hk, hcc⟩ := hc j s hj
  have hk : c = [.string s] := hk
  subst hk
  have := hcc 0 _ rfl
  rwa [show j * Kd.string.sz + 0 = j from (by show j * 1 + 0 = j; omega)] at this
def RBox (w : World) (g : Nat) (s l : Int) (v2 v3 : Value) (f c : Int) : Prop := w.heap[g]? = some (.cells #[.int .i64 s, .int .i64 l, v2, v3, .int .i64 f, .int .i64 c] 47 (0, 0))
section
variable {w w' : World} {g : Nat} {s l f c : Int} {v2 v3 : Value}
theorem RBox.cells (h : RBox w g s l v2 v3 f c) : w.cell? ⟨g, 0, none⟩ = some (.int .i64 s) ∧ w.cell? ⟨g, 1, none⟩ = some (.int .i64 l) ∧ w.cell? ⟨g, 2, none⟩ = some v2 ∧ w.cell? ⟨g, 3, none⟩ = some v3 ∧ w.cell? ⟨g, 4, none⟩ = some (.int .i64 f) ∧ w.cell? ⟨g, 5, none⟩ = some (.int .i64 c) :=
  ⟨blk_cell h 0, blk_cell h 1, blk_cell h 2, blk_cell h 3, blk_cell h 4, blk_cell h 5⟩
theorem RBox.free (h : RBox w g s l v2 v3 f c) (i : Nat) : w.frozen? ⟨g, i, none⟩ = false := blk_frozen h i
theorem RBox.set2 (h : RBox w g s l v2 v3 f c) (v : Value) : RBox (w.setCell ⟨g, 2, none⟩ v) g s l v v3 f c := by unfold RBox; simpa using blk_set h 2 v
end
set_option maxRecDepth 100000 in
set_option maxHeartbeats 2000000 in
theorem rcrash_any (w : World) (base : Nat) (okR : Nat → Prop) (D : Dk) (v2 v3 : Value) (h2 : Kd.R Kd.string 9 w base okR v2 (bl D.good)) (h3 : Kd.R k135 135 w base okR v3 (wl D.loose)) (hwf : D.OK) (hlo : D.loose.length ≤ 1000000000) (hbase : base ≤ w.heap.size) (ps : List UInt8) (hps : ps.length ≤ 1000000) :
    Calls Try.prog 35 #[.agg #[.int .i64 (D.size : Int), .int .i64 (D.limit : Int), v2, v3, .int .i64 D.fails, .int .i64 (D.calls : Int)], .string (bs ps)] w fun e w' => ∃ v2', e = .returned (.agg #[.int .i64 (D.size : Int), .int .i64 (D.limit : Int), v2', .slice none 0 0, .int .i64 (-1), .int .i64 (D.calls : Int)]) ∧
      Kd.R Kd.string 9 w' base (fun k => okR k ∨ w.heap.size ≤ k) v2' (bl (crashed D.good D.loose ps)) ∧ Below w.heap.size w w' := by
  obtain ⟨A3, c3, rfl, hc3, hC3⟩ := Kd.R_reads h3
  rw [wl_length] at hc3 hC3 ⊢
  have H2 := Lib.hid (Kd.R_mono h2 (fun k hk => (.inl hk : okR k ∨ w.heap.size ≤ k)))
  have HC3 := Lib.hid hC3
  have hg1 := hwf.g1
  have hl2 := hwf.l2
  have hs2 := hwf.s2
  obtain ⟨T, hT⟩ : ∃ T, D.size = T * 128 := ⟨D.size / 128, by have := hwf.s3; omega⟩
  have HT := Lib.hid hT
  have hbn := bs_size ps
  obtain ⟨n, hn⟩ : ∃ n, D.loose.length = n := ⟨_, rfl⟩
  have HN := Lib.hid hn
  rw [hn] at hc3 HC3 hlo ⊢
  obtain ⟨m, hm⟩ : ∃ m, ps.length = m := ⟨_, rfl⟩
  rw [hm] at hbn hps
  have HM := Lib.hid hm
  have HWF := Lib.hid hwf
  clear h2 h3 hC3 hT hwf hn hm
  go_enter Try.func35, Try.ntmps35
  go_wp2_with fail
  have hb2 : RBox ((w.alloc (.cells #[.int .i64 (D.size : Int), .int .i64 (D.limit : Int), v2, .slice A3 n c3, .int .i64 D.fails, .int .i64 (D.calls : Int)] 47)).alloc (.cells #[.int .i64 0, .int .i64 0, .slice none 0 0, .slice none 0 0, .int .i64 0, .int .i64 0] 47)) w.heap.size D.size D.limit v2 (.slice A3 n c3) D.fails D.calls := blk_alloc (heap_alloc_new w _) _
  have hb4 : RBox ((w.alloc (.cells #[.int .i64 (D.size : Int), .int .i64 (D.limit : Int), v2, .slice A3 n c3, .int .i64 D.fails, .int .i64 (D.calls : Int)] 47)).alloc (.cells #[.int .i64 0, .int .i64 0, .slice none 0 0, .slice none 0 0, .int .i64 0, .int .i64 0] 47)) (w.heap.size + 1) 0 0 (.slice none 0 0) (.slice none 0 0) 0 0 := by
    have := heap_alloc_new (w.alloc (.cells #[.int .i64 (D.size : Int), .int .i64 (D.limit : Int), v2, .slice A3 n c3, .int .i64 D.fails, .int .i64 (D.calls : Int)] 47)) (.cells #[.int .i64 0, .int .i64 0, .slice none 0 0, .slice none 0 0, .int .i64 0, .int .i64 0] 47)
    rwa [World.size_alloc] at this
  have hbw : Below w.heap.size w ((w.alloc (.cells #[.int .i64 (D.size : Int), .int .i64 (D.limit : Int), v2, .slice A3 n c3, .int .i64 D.fails, .int .i64 (D.calls : Int)] 47)).alloc (.cells #[.int .i64 0, .int .i64 0, .slice none 0 0, .slice none 0 0, .int .i64 0, .int .i64 0] 47)) := ((Below.refl _ w).alloc (Nat.le_refl _) _).alloc (by simp) _
  obtain ⟨b2, hb2e⟩ : ∃ b2, w.heap.size = b2 := ⟨_, rfl⟩
  have HB := Lib.hid hb2e
  rw [hb2e] at hb2 hb4 hbase H2 ⊢
  generalize ((w.alloc (.cells #[.int .i64 (D.size : Int), .int .i64 (D.limit : Int), v2, .slice A3 n c3, .int .i64 D.fails, .int .i64 (D.calls : Int)] 47)).alloc (.cells #[.int .i64 0, .int .i64 0, .slice none 0 0, .slice none 0 0, .int .i64 0, .int .i64 0] 47)) = w1 at hb2 hb4 hbw ⊢
  have hR1 := Kd.R_below H2.out hbw
  clear hb2e
  have HCR := Lib.hid (crashed_nil D.good ps)
  go_loopw [5] (fun i wr => ∃ (k : Nat) (v : Value), k ≤ n ∧ k ≤ m ∧ i = .int .i64 (k : Int) ∧ RBox wr b2 D.size D.limit v (.slice A3 n c3) D.fails D.calls ∧ RBox wr (b2 + 1) 0 0 (.slice none 0 0) (.slice none 0 0) 0 0 ∧ Hid (Kd.R Kd.string 9 wr base (fun k => okR k ∨ b2 ≤ k) v (bl (crashed D.good (D.loose.take k) ps))) ∧ Hid (Below w.heap.size w wr)) (fun i _ => n - (intOf i).toNat)
  case atStart => exact ⟨0, v2, Nat.zero_le _, Nat.zero_le _, rfl, hb2, hb4, Lib.hid (by rw [List.take_zero, HCR.out]; exact hR1), Lib.hid hbw⟩
  case round =>
    obtain ⟨wo, hwo⟩ : ∃ wo, wo = wr := ⟨_, rfl⟩
    subst hwo
    obtain ⟨k, v, hk, hkm, rfl, hX, hY, hR, hbwk⟩ := hrel
    clear hb2 hb4 hbw hR1
    obtain ⟨x0, x1, x2, x3, x4, x5⟩ := hX.cells
    have HX := Lib.hid hX
    have HY := Lib.hid hY
    clear hX hY
    have hbz : b2 + 1 < wo.heap.size := blk_lt HY.out
    by_cases hlt : k < n ∧ k < m
    · obtain ⟨hlt1, hlt2⟩ := hlt
      have d1 : decide (k < n) = true := decide_eq_true hlt1
      have d1' : decide ((k : Int) < (n : Int)) = true := decide_eq_true (by omega)
      have d2 : decide (k < m) = true := decide_eq_true hlt2
      have d2' : decide ((k : Int) < (m : Int)) = true := decide_eq_true (by omega)
      obtain ⟨x, hx⟩ : ∃ x, D.loose[k]? = some x := ⟨_, List.getElem?_eq_getElem (by rw [HN.out]; exact hlt1)⟩
      obtain ⟨ad, hA, l0, l1⟩ := at_T135 (Kd.C_below HC3.out hbwk.out) (k : Int) (by omega) (by omega)
      rw [rd_wl hx] at l0 l1
      have l0 : wo.cell? (ad.add (k * 2)) = some (.int .i64 (x.1 : Int)) := l0
      have l1 : wo.cell? ⟨(ad.add (k * 2)).block, (ad.add (k * 2)).off + 1, none⟩ = some (.string (bs x.2)) := l1
      subst hA
      have hxo := HWF.out.o1 x (List.mem_of_getElem? hx)
      obtain ⟨q, hq⟩ : ∃ q, ps[k]? = some q := ⟨_, List.getElem?_eq_getElem (by rw [HM.out]; exact hlt2)⟩
      have hqe : ∀ (h : k < (bs ps).size), ((bs ps)[k]'h).toNat = q.toNat := fun h => by
        have h2 : k < ps.length := by rw [HM.out]; exact hlt2
        rw [List.getElem?_eq_getElem h2] at hq
        injection hq with hq
        rw [← hq]
        rfl
      have HXG := Lib.hid hx
      have HQ := Lib.hid hq
      clear hx hq
      go_wp2_with fail
      have hgl : (crashed D.good (D.loose.take k) ps).length = D.good.length := crashed_length _ _ _
      have hgs := crashed_pages D.size (D.loose.take k) ps D.good HWF.out.g2 (fun y hy => (HWF.out.o1 y (List.mem_of_mem_take hy)).1)
      generalize hgg : crashed D.good (D.loose.take k) ps = gg at hR hgl hgs
      have HGG := Lib.hid hgg
      obtain ⟨old, hold⟩ : ∃ old, gg[x.1]? = some old := ⟨_, List.getElem?_eq_getElem (by rw [hgl]; exact hxo.1)⟩
      have hol := hgs old (List.mem_of_getElem? hold)
      obtain ⟨Av, cv, rfl, hcv, hCv⟩ := Kd.R_reads hR.out
      rw [bl_length, hgl] at hcv hCv hR HX x2
      obtain ⟨gn, hgn⟩ : ∃ gn, D.good.length = gn := ⟨_, rfl⟩
      have HGN := Lib.hid hgn
      rw [hgn] at hcv hCv hR HX x2 hg1 hxo
      obtain ⟨adv, hAv, cold⟩ := C_str hCv (j := x.1) (s := bs old) (by simp [bl, hold])
      subst hAv
      have hbx := heap_alloc_new wo (.cells #[.int .i64 (x.1 : Int), .string (bs x.2)] 135)
      have hXa : RBox (wo.alloc (.cells #[.int .i64 (x.1 : Int), .string (bs x.2)] 135)) b2 D.size D.limit (.slice (some adv) gn cv) (.slice (some ad) n c3) D.fails D.calls := blk_alloc HX.out _
      have hYa : RBox (wo.alloc (.cells #[.int .i64 (x.1 : Int), .string (bs x.2)] 135)) (b2 + 1) 0 0 (.slice none 0 0) (.slice none 0 0) 0 0 := blk_alloc HY.out _
      have hRa := Lib.hid (Kd.R_below hR.out ((Below.refl _ wo).alloc (Nat.le_refl _) (.cells #[.int .i64 (x.1 : Int), .string (bs x.2)] 135)))
      have hBa := Lib.hid (hbwk.out.alloc (hbwk.out.size) (.cells #[.int .i64 (x.1 : Int), .string (bs x.2)] 135))
      have hca : (wo.alloc (.cells #[.int .i64 (x.1 : Int), .string (bs x.2)] 135)).cell? (adv.add x.1) = some (.string (bs old)) := (World.cell?_alloc_lt wo _ _ (World.block_lt_of_cell? wo _ cold)).trans cold
      obtain ⟨bx, hbxe⟩ : ∃ bx, wo.heap.size = bx := ⟨_, rfl⟩
      rw [hbxe] at hbx hbz ⊢
      generalize wo.alloc (.cells #[.int .i64 (x.1 : Int), .string (bs x.2)] 135) = w2 at hbx hXa hYa hRa hBa hca ⊢
      clear x0 x1 x2 x3 x4 x5 HX HY hR hbwk hCv l0 l1 cold hbxe hgs hgg hgn
      obtain ⟨X, xb⟩ := x
      have hXn : X < gn := hxo.1
      have hxl : xb.length = D.size := hxo.2
      clear hxo
      go_loopw [7, 8] (fun s i wr => ∃ (t p : Nat), t ≤ T ∧ Hid (p = t * 128) ∧ p ≤ 4096 ∧ s = .string (bs ((mixed q old xb).take p)) ∧ i = .int .i64 (p : Int) ∧ RBox wr b2 D.size D.limit (.slice (some adv) gn cv) (.slice (some ad) n c3) D.fails D.calls ∧ RBox wr (b2 + 1) 0 0 (.slice none 0 0) (.slice none 0 0) 0 0 ∧ wr.heap[bx]? = some (.cells #[.int .i64 (X : Int), .string (bs xb)] 135 (0, 0)) ∧ wr.cell? (adv.add X) = some (.string (bs old)) ∧ Hid (Kd.R Kd.string 9 wr base (fun k => okR k ∨ b2 ≤ k) (.slice (some adv) gn cv) (bl gg)) ∧ Hid (Below w.heap.size w wr)) (fun _ i _ => 4096 - (intOf i).toNat)
      case atStart => exact ⟨0, 0, Nat.zero_le _, Lib.hid (by simp), Nat.zero_le _, rfl, rfl, hXa, hYa, hbx, hca, hRa, hBa⟩
      case round =>
        obtain ⟨wi, hwi⟩ : ∃ wi, wi = wr := ⟨_, rfl⟩
        subst hwi
        obtain ⟨t, p, ht, hp, hp4, rfl, rfl, hX, hY, hbx, hcv, hR, hbwk⟩ := hrel
        clear hXa hYa hRa hBa hca
        obtain ⟨x0, x1, x2, x3, x4, x5⟩ := hX.cells
        obtain ⟨y0, y1, _, _⟩ := blk2 hbx
        by_cases htl : t < T
        · have hpS : p + 128 ≤ D.size := by rw [HT.out, hp.out]; omega
          have e1 : decide (p < D.size) = true := decide_eq_true (by omega)
          have e1' : decide ((p : Int) < (D.size : Int)) = true := decide_eq_true (by omega)
          obtain ⟨u, hu⟩ : ∃ u, t % 8 = u := ⟨_, rfl⟩
          have hdv : (p : Int).tdiv 128 = (t : Int) := by rw [Int.tdiv_eq_ediv_of_nonneg (by omega), hp.out]; omega
          have hdv' : (p : Int) / 128 = (t : Int) := by rw [hp.out]; omega
          have hmd : (t : Int).tmod 8 = (u : Int) := by rw [Int.tmod_eq_emod_of_nonneg (by omega)]; omega
          have hmd' : (t : Int) % 8 = (u : Int) := by omega
          have ht32 : t ≤ 32 := by have := hp.out; omega
          have hbit := rubricatorref03_bit.calls (u + 1) (q.toNat : Int) (u : Int) (pickB q (t * 128)) wi (by rw [← hu]; exact r_bit q t)
          clear hu
          have holb := bs_size old
          have hxbb := bs_size xb
          rw [hol] at holb
          rw [hxl] at hxbb
          have hdl := bs_size ((mixed q old xb).take p)
          go_wp2_with fail
          refine hbit.mono ?_
          rintro e w' ⟨rfl, ⟨nd, rfl⟩⟩
          have hX' : RBox (wi.drewN nd) b2 D.size D.limit (.slice (some adv) gn cv) (.slice (some ad) n c3) D.fails D.calls := hX
          have hY' : RBox (wi.drewN nd) (b2 + 1) 0 0 (.slice none 0 0) (.slice none 0 0) 0 0 := hY
          have hbx' : (wi.drewN nd).heap[bx]? = some (.cells #[.int .i64 (X : Int), .string (bs xb)] 135 (0, 0)) := hbx
          have hcv' : (wi.drewN nd).cell? (adv.add X) = some (.string (bs old)) := hcv
          have hR' := Lib.hid (Kd.R_drewN hR.out nd)
          have hB' := Lib.hid (below_drewN hbwk.out nd)
          generalize wi.drewN nd = w3 at hX' hY' hbx' hcv' hR' hB' ⊢
          clear hX hY hbx hcv hR hbwk x0 x1 x2 x3 x4 x5 y0 y1 hbit
          obtain ⟨x0, x1, x2, x3, x4, x5⟩ := hX'.cells
          obtain ⟨y0, y1, _, _⟩ := blk2 hbx'
          have hstep := mixed_step q old xb T t (by rw [hol]; exact HT.out) (by rw [hxl]; exact HT.out) htl
          rw [Nat.add_mul, Nat.one_mul, ← hp.out] at hstep
          have hp2 : p + 128 = (t + 1) * 128 := by rw [Nat.add_mul, Nat.one_mul, hp.out]
          have HST := Lib.hid hstep
          have hpk : Hid (pickB q (t * 128) = true ∨ pickB q (t * 128) = false) := Lib.hid (by cases pickB q (t * 128) <;> simp)
          clear hstep
          rw [← hp.out] at hpk ⊢
          rcases hpk.out with hpb | hpb
          · have hsum : Value.string (bs ((mixed q old xb).take p) ++ (bs xb).extract p ((t + 1) * 128)) = .string (bs ((mixed q old xb).take (p + 128))) := by
              rw [← hp2, HST.out, if_pos hpb, bs_extract, bs_append]
            have HSUM := Lib.hid hsum
            clear hsum
            rw [hpb]
            go_wp2_with fail
            have hsum := HSUM.out
            exact ⟨⟨t + 1, p + 128, by omega, Lib.hid hp2, by omega, hsum, by go_num, hX', hY', hbx', hcv', hR', hB'⟩, by simp [intOf]; omega⟩
          · have hsum : Value.string (bs ((mixed q old xb).take p) ++ (bs old).extract p ((t + 1) * 128)) = .string (bs ((mixed q old xb).take (p + 128))) := by
              rw [← hp2, HST.out, if_neg (by rw [hpb]; simp), bs_extract, bs_append]
            have HSUM := Lib.hid hsum
            clear hsum
            rw [hpb]
            go_wp2_with fail
            have hsum := HSUM.out
            exact ⟨⟨t + 1, p + 128, by omega, Lib.hid hp2, by omega, hsum, by go_num, hX', hY', hbx', hcv', hR', hB'⟩, by simp [intOf]; omega⟩
        · obtain rfl : T = t := by omega
          have hpS : p = D.size := by rw [HT.out, hp.out]
          have hall : (mixed q old xb).take p = mixed q old xb := List.take_of_length_le (by rw [mixed_length, hol, hpS]; exact Nat.le_refl _)
          have e1 : decide (p < D.size) = false := decide_eq_false (by omega)
          have e1' : decide ((p : Int) < (D.size : Int)) = false := decide_eq_false (by omega)
          rw [hall]
          have hset := r_set (g := gg) (i := X) (by rw [hgl, HGN.out]; exact hXn) (by rw [hgl, HGN.out]; omega) (mixed q old xb)
          obtain ⟨hne, hncv, hCg⟩ := Kd.R_reads' hR.out
          have hl1 : (bl gg).length = gn := by rw [bl_length, hgl, HGN.out]
          have hcall := rubricatorref03_set.calls (some adv) cv (bl gg) (X : Int) (bs (mixed q old xb)) _ wi hCg (by rw [hl1]; exact hncv) hset
          rw [hl1] at hcall
          have HHX := Lib.hid hX
          have HHY := Lib.hid hY
          clear hX hY hcv hne hCg hset hall
          go_wp2_with fail
          refine hcall.mono ?_
          rintro e w4 ⟨v0, rfl, hR4, hb4⟩
          have hX4 : RBox w4 b2 D.size D.limit (.slice (some adv) gn cv) (.slice (some ad) n c3) D.fails D.calls := (hb4.block b2 (blk_lt HHX.out)).trans HHX.out
          have hY4 : RBox w4 (b2 + 1) 0 0 (.slice none 0 0) (.slice none 0 0) 0 0 := (hb4.block _ (blk_lt HHY.out)).trans HHY.out
          obtain ⟨_, _, z2, _⟩ := hX4.cells
          have z2f := hX4.free 2
          have hbs4 := hbwk.out.size
          have hbi : b2 ≤ wi.heap.size := by rw [← HB.out]; exact hbs4
          have hwb : b2 + 1 < wi.heap.size := blk_lt HHY.out
          have hR5 : Kd.R Kd.string 9 w4 base (fun k => (okR k ∨ b2 ≤ k) ∧ k ≠ b2) v0 (bl (gg.set X (mixed q old xb))) :=
            Kd.R_mono (Kd.R_lower (base' := base) (Kd.R_bound hR4) (by omega)) (fun k hk => by
              have h1 : wi.heap.size ≤ k := hk.2.1
              exact ⟨.inr (by omega), by omega⟩)
          obtain ⟨A5, c5, rfl, _, _⟩ := Kd.R_reads hR5
          have hl5 : (bl (gg.set X (mixed q old xb))).length = gn := by rw [bl_length, List.length_set, hgl, HGN.out]
          rw [hl5] at hR5 ⊢
          have hR6 := Lib.hid (Kd.R_mono (Kd.R_far (p := ⟨b2, 2, none⟩) hR5 (fun k hk => hk.2) (.slice A5 gn c5)) (fun k hk => hk.1))
          have hX6 := Lib.hid (hX4.set2 (.slice A5 gn c5))
          have hY6 := Lib.hid (show RBox (w4.setCell ⟨b2, 2, none⟩ (.slice A5 gn c5)) (b2 + 1) 0 0 (.slice none 0 0) (.slice none 0 0) 0 0 from blk_far hY4 (show b2 + 1 ≠ b2 by omega) _)
          have hB6 := Lib.hid ((hbwk.out.trans (hb4.mono (by rw [HB.out]; omega))).setCell (p := ⟨b2, 2, none⟩) (show w.heap.size ≤ b2 by rw [HB.out]; exact Nat.le_refl _) (.slice A5 gn c5))
          have HCS := Lib.hid (show crashed D.good (D.loose.take (k + 1)) ps = gg.set X (mixed q old xb) from by
            rw [crashed_take_succ HXG.out HQ.out, HGG.out]
            show gg.set X (mixed q (gg.getD X []) xb) = _
            rw [show gg.getD X [] = old from by rw [List.getD, hold]; rfl])
          clear hR4 hR5 hX4 hY4 hb4 hl5
          go_wp2_with fail
          exact ⟨⟨k + 1, _, by omega, by omega, by go_num, hX6.out, hY6.out, Lib.hid (by rw [HCS.out]; exact hR6.out), hB6⟩, by simp [intOf]; omega⟩
    · have hkk : k = min n m := by omega
      have HTA := Lib.hid (show crashed D.good (D.loose.take k) ps = crashed D.good D.loose ps from by
        rw [hkk, ← HN.out, ← HM.out]
        exact crashed_take_all)
      rw [HTA.out] at hR
      obtain ⟨Av, cv, rfl, hcv, _⟩ := Kd.R_reads hR.out
      have hl1 : (bl (crashed D.good D.loose ps)).length = D.good.length := by rw [bl_length, crashed_length]
      rw [hl1] at hcv hR HX x2
      have hRT := Kd.R_types (Kd.R_types hR.out HX.out (by decide)) HY.out (by decide)
      obtain ⟨z0, z1, z2, z3, z4, z5⟩ := HY.out.cells
      have zf : ∀ i, wo.frozen? ⟨b2 + 1, i, none⟩ = false := fun i => HY.out.free i
      have xf : ∀ i, wo.frozen? ⟨b2, i, none⟩ = false := fun i => HX.out.free i
      by_cases hkn : k < n
      · have d1 : decide (k < n) = true := decide_eq_true hkn
        have d1' : decide ((k : Int) < (n : Int)) = true := decide_eq_true (by omega)
        have d2 : decide (k < m) = false := decide_eq_false (by omega)
        have d2' : decide ((k : Int) < (m : Int)) = false := decide_eq_false (by omega)
        clear hlt hkk hl1
        go_wp2_with fail
        refine bodyPost_ret (v := .agg #[.int .i64 (D.size : Int), .int .i64 (D.limit : Int), .slice Av D.good.length cv, .slice none 0 0, .int .i64 (-1), .int .i64 (D.calls : Int)]) ?_ rfl ⟨_, rfl, ?_, ?_⟩
        · simp only [results, Try.results35]
          go_simp
        · rw [HB.out]
          refine Kd.R_mono (Kd.R_step hRT (fun k hk _ => ?_)) (fun k hk => hk.1.1)
          iterate 8 rw [Below.heap_setCell _ _ _ _ (by first | exact hk.1.2 | exact hk.2)]
        · refine ((((((((hbwk.out.setCell ?_ _).setCell ?_ _).setCell ?_ _).setCell ?_ _).setCell ?_ _).setCell ?_ _).setCell ?_ _).setCell ?_ _) <;> (show w.heap.size ≤ _; rw [HB.out]; dsimp only; omega)
      · have d1 : decide (k < n) = false := decide_eq_false hkn
        have d1' : decide ((k : Int) < (n : Int)) = false := decide_eq_false (by omega)
        clear hlt hkk hl1
        go_wp2_with fail
        refine bodyPost_ret (v := .agg #[.int .i64 (D.size : Int), .int .i64 (D.limit : Int), .slice Av D.good.length cv, .slice none 0 0, .int .i64 (-1), .int .i64 (D.calls : Int)]) ?_ rfl ⟨_, rfl, ?_, ?_⟩
        · simp only [results, Try.results35]
          go_simp
        · rw [HB.out]
          refine Kd.R_mono (Kd.R_step hRT (fun k hk _ => ?_)) (fun k hk => hk.1.1)
          iterate 8 rw [Below.heap_setCell _ _ _ _ (by first | exact hk.1.2 | exact hk.2)]
        · refine ((((((((hbwk.out.setCell ?_ _).setCell ?_ _).setCell ?_ _).setCell ?_ _).setCell ?_ _).setCell ?_ _).setCell ?_ _).setCell ?_ _) <;> (show w.heap.size ≤ _; rw [HB.out]; dsimp only; omega)
end Go.Proofs.Ythijobbhpbklmaa
