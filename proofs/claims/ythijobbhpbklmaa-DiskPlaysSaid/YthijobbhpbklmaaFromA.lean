/- disk.From: the range over slices.Chunk: what it needs. -/
import Derived.Test.YthijobbhpbklmaaChunkD
import Derived.Maps.AppendAt
namespace Go.Proofs.Ythijobbhpbklmaa
open Go.RowKit Go.Shelf
set_option linter.unusedVariables false
set_option linter.unusedSimpArgs false
attribute [local go_sem] Oper.semAt_some
attribute [-go_sem] Builtin.append_

theorem info_sl : (Try.prog.info? 30).map (fun i => (i.zero, i.size, i.bytes)) = some (some (.slice none 0 0), 1, 24) := by kernel_rfl

theorem chunk_any (w : World) (A : Option Addr) (N c m : Nat) (hm : 1 ≤ m) :
    Calls Try.prog 59 #[.slice A N c, .int .i64 (m : Int)] w fun e w' => e = .returned (.func (.func 76) #[] #[.pointer (some ⟨w.heap.size, 0, none⟩), .pointer (some ⟨w.heap.size + 1, 0, none⟩)]) ∧ w' = (w.alloc (.cells #[.slice A N c] 30)).alloc (.cells #[.int .i64 (m : Int)] 3) := by
  have d1 : decide ((m : Int) < 1) = false := decide_eq_false (by omega)
  go_enter Try.func59, Try.ntmps59
  go_wp2
  go_ret
  exact ⟨rfl, rfl⟩

theorem chunk_stops (F : Fence) (n : Nat) (h54 : F.fn 76) (hro : F.round = none) (hn : 1 ≤ n) (Bs Bn n1 bo : Nat) (A : Option Addr) (N c m : Nat) (hN : N ≤ 140737488355328) (hm1 : 1 ≤ m) (hm2 : m ≤ 4096) (hNc : N ≤ c)
    (hs1 : Bs < n1) (hs2 : Bs ≠ bo) (hn1 : Bn < n1) (hn2 : Bn ≠ bo) (w : World) (hnw : n1 ≤ w.heap.size) (hBs : w.cell? ⟨Bs, 0, none⟩ = some (.slice A N c)) (hBn : w.cell? ⟨Bn, 0, none⟩ = some (.int .i64 (m : Int))) :
    SeqStopsK F n Try.prog 76 #[.pointer (some ⟨Bs, 0, none⟩), .pointer (some ⟨Bn, 0, none⟩)] (fun k : Nat => #[chV A N m k]) (KB n1 bo) (fun ys => ys = List.range (chK N m)) (fun pre => ∃ k, k ≤ chK N m ∧ pre = List.range k) (chK N m) w :=
  fun l J Jx W hW hJ _ hY h0 =>
    chunk1_in F n h54 hro hn l Bs Bn n1 bo A N c m hN hm1 hm2 hNc hs1 hs2 hn1 hn2 J Jx hY (fun s X Y h hg => hJ s X Y none h hg (fun r e => by cases e)) W
      ((hW.cell (p := ⟨Bs, 0, none⟩) (by show Bs < _; omega)).trans hBs) ((hW.cell (p := ⟨Bn, 0, none⟩) (by show Bn < _; omega)).trans hBn) h0

/-- Pieces in rows of their own, from base on: what lies in the collecting slice. -/
def Pieces (w : World) (base : Nat) (cs : List Value) (ps : List (List UInt8)) : Prop :=
  cs.length = ps.length ∧ ∀ (i : Nat) (x : Value), cs[i]? = some x → ∃ A n c p, x = .slice A n c ∧ ps[i]? = some p ∧ w.ownsRow base 5 1 (.slice A n c) n (bv p)
theorem Pieces.nil_ (w : World) (base : Nat) : Pieces w base [] [] := ⟨rfl, by simp⟩
theorem Pieces.kept {w w' : World} {base : Nat} {cs : List Value} {ps : List (List UInt8)} {row : Option Nat} (h : Pieces w base cs ps) (hg : w.grownBy w' row)
    (hr : ∀ r, row = some r → ∀ C fr, w.heap[r]? ≠ some (.cells C 5 fr)) : Pieces w' base cs ps := by
  refine ⟨h.1, fun i x hx => ?_⟩
  obtain ⟨A, n, c, p, he, hp, ho⟩ := h.2 i x hx
  refine ⟨A, n, c, p, he, hp, ho.kept hg ?_⟩
  rcases ho.2 with ⟨hv, _⟩ | ⟨g, cap, cur, hv, _, hh, _⟩
  · exact .inl (by rw [hv]; rfl)
  · refine .inr fun e => ?_
    rw [hv] at e
    exact hr g e.symm _ _ hh
theorem own_lower {w : World} {base b' : Nat} {e : TypeId} {size n : Nat} {v : Value} {xs : List Value} (h : w.ownsRow base e size v n xs) (hb : b' ≤ base) : w.ownsRow b' e size v n xs := by
  refine ⟨h.1, ?_⟩
  rcases h.2 with h | ⟨g, cap, cur, hv, hgb, hh⟩
  · exact .inl h
  · exact .inr ⟨g, cap, cur, hv, Nat.le_trans hb hgb, hh⟩
theorem Pieces.below {w w' : World} {base : Nat} {cs : List Value} {ps : List (List UInt8)} (h : Pieces w base cs ps) (hb : Below w.heap.size w w') : Pieces w' base cs ps := by
  refine ⟨h.1, fun i x hx => ?_⟩
  obtain ⟨A, n, c, p, he, hp, ho⟩ := h.2 i x hx
  exact ⟨A, n, c, p, he, hp, own_below ho hb (Nat.le_refl _)⟩
theorem Pieces.lower {w : World} {base b' : Nat} {cs : List Value} {ps : List (List UInt8)} (h : Pieces w base cs ps) (hb : b' ≤ base) : Pieces w b' cs ps := by
  refine ⟨h.1, fun i x hx => ?_⟩
  obtain ⟨A, n, c, p, he, hp, ho⟩ := h.2 i x hx
  exact ⟨A, n, c, p, he, hp, own_lower ho hb⟩
theorem Pieces.snoc {w : World} {base : Nat} {cs : List Value} {ps : List (List UInt8)} (h : Pieces w base cs ps) {A : Option Addr} {n c : Nat} {p : List UInt8} (ho : w.ownsRow base 5 1 (.slice A n c) n (bv p)) : Pieces w base (cs ++ [.slice A n c]) (ps ++ [p]) := by
  refine ⟨by simp [h.1], fun i x hx => ?_⟩
  by_cases hi : i < cs.length
  · rw [List.getElem?_append_left hi] at hx
    obtain ⟨A', n', c', p', he, hp, ho'⟩ := h.2 i x hx
    exact ⟨A', n', c', p', he, by rw [List.getElem?_append_left (by rw [← h.1]; exact hi)]; exact hp, ho'⟩
  · have hlen := (List.getElem?_eq_some_iff.1 hx).1
    simp at hlen
    obtain rfl : i = cs.length := by omega
    simp at hx
    exact ⟨A, n, c, p, hx.symm, by rw [h.1]; simp, ho⟩
theorem Pieces.one {w : World} {base : Nat} {cs : List Value} {ps : List (List UInt8)} (h : Pieces w base cs ps) : ∀ u ∈ cs, u.oneCell' = true := by
  intro u hu
  obtain ⟨i, hi, rfl⟩ := List.getElem_of_mem hu
  obtain ⟨A, n, c, p, he, _⟩ := h.2 i _ (List.getElem?_eq_getElem hi)
  rw [he]
  rfl

theorem alloc_cell0 (w : World) (v : Value) (t : TypeId) : (w.alloc (.cells #[v] t)).cell? ⟨w.heap.size, 0, none⟩ = some v := (Boxed.new w t v).cell
theorem append_piece (w : World) (base : Nat) (v : Value) (k : Nat) (cs : List Value) (h : w.ownsRow base 30 1 v k cs) (A : Option Addr) (n c B : Nat) (hk : k ≤ 1099511627776) (hb : base ≤ w.heap.size)
    (hB : w.cell? ⟨B, 0, none⟩ = some (.slice A n c)) (hB2 : B < w.heap.size) : ∃ v' w', (Builtin.append_ #[106, 106] 106 #[v, .slice (some ⟨B, 0, none⟩) 1 1]).run Try.prog w = .ok v' w' ∧
      w'.ownsRow base 30 1 v' (k + 1) (cs ++ [.slice A n c]) ∧ w.grownBy w' v.ownBlock ∧ (v'.ownBlock = v.ownBlock ∨ v'.ownBlock = some w.heap.size) := by
  obtain ⟨is, si0, sz0, sz1, sz2⟩ := info_parts info_sl
  exact run_append_any (P := Try.prog) w base 106 106 30 is _ 1 24 Try.underlying106 si0 sz0 sz1 sz2 rfl (by omega) v k cs h w.heap.size (some ⟨B, 0, none⟩) 1 1 [.slice A n c]
    ⟨rfl, fun _ => ⟨_, rfl, hB2, fun j u hu => by cases j with | zero => simp at hu; subst hu; exact hB | succ j => simp at hu⟩⟩ (by simp [Value.oneCell']) (by unfold maxLen; omega) (by omega) hb

/-- From -/
def dFrom (size limit : Nat) (l : List UInt8) : Dk := { dNew size limit with good := (List.range (l.length / size)).map (chL l size) }
theorem chK_div (n m : Nat) (hm : 0 < m) (h : n % m = 0) : chK n m = n / m := by
  unfold chK
  obtain ⟨q, rfl⟩ : ∃ q, n = q * m := ⟨n / m, by have := Nat.div_add_mod n m; rw [h, Nat.mul_comm] at this; omega⟩
  rw [Nat.mul_div_cancel _ hm, show q * m + m - 1 = (m - 1) + m * q by rw [Nat.mul_comm]; omega, Nat.add_mul_div_left _ _ hm, Nat.div_eq_of_lt (by omega), Nat.zero_add]
theorem chL_full (l : List UInt8) (m k : Nat) (hm : 0 < m) (h : l.length % m = 0) (hk : k < l.length / m) : (chL l m k).length = m := by
  rw [chL_length]
  unfold chE
  have h1 : (k + 1) * m ≤ l.length / m * m := Nat.mul_le_mul_right _ hk
  have h2 := Nat.div_mul_le_self l.length m
  rw [Nat.add_mul, Nat.one_mul] at h1
  omega
theorem dFrom_ok (size limit : Nat) (l : List UInt8) (h : NewOk (size : Int) (limit : Int)) (h1 : l.length % size = 0) (h2 : l.length / size ≤ limit) : (dFrom size limit l).OK := by
  have k := dNew_ok size limit h
  have hs : 0 < size := by have := k.s1; show 0 < (dNew size limit).size; omega
  refine ⟨k.s1, k.s2, k.s3, k.l1, k.l2, ?_, ?_, (by intro x hx; cases hx), k.f1, k.f2⟩
  · show ((List.range (l.length / size)).map (chL l size)).length ≤ limit
    rw [List.length_map, List.length_range]
    exact h2
  · intro r hr
    obtain ⟨i, hi, rfl⟩ := List.mem_map.1 hr
    exact chL_full l size i hs h1 (List.mem_range.1 hi)
theorem from_own (n1 p bx S L : Nat) (l : List UInt8) (m : Nat) : Own (fun (pre : List Nat) W => ∃ v cs, DBlk W p S L v (.slice none 0 0) (-1) 0 0 (.slice none 0 0) ∧ Boxed W bx 23 (.pointer (some ⟨p, 0, none⟩)) ∧ W.ownsRow n1 30 1 v pre.length cs ∧ Pieces W n1 cs (pre.map (chL l m))) := by
  rintro s X Y row ⟨v, cs, hd, hv, hr, hp⟩ hg hrow
  have hno : ∀ (g : Nat) C t fr, X.heap[g]? = some (.cells C t fr) → row ≠ some g := by
    intro g C t fr h e
    obtain ⟨o, ho, hc⟩ := hrow g e
    rw [h] at ho
    cases ho
    cases hc
  refine ⟨v, cs, (hg.block p hd.lt (fun e => hno _ _ _ _ hd e.symm)).trans hd, hv.kept hg (fun e => hno _ _ _ _ hv e.symm), hr.kept hg ?_, hp.kept hg (fun r e C fr h => hno r _ _ _ h e)⟩
  rcases hr.2 with ⟨rfl, _⟩ | ⟨g, cap, cur, rfl, _, hgb, _⟩
  · exact .inl rfl
  · exact .inr fun e => hno g _ _ _ hgb e.symm
theorem Pieces.grow {w : World} {base n1 : Nat} {ok : Nat → Prop} {G : Value} {A : Option Addr} {c : Nat} {cs : List Value} {good : List (List UInt8)} (hG : G = .slice A good.length c) (ho : w.ownsRow n1 30 1 G good.length cs) (h : Pieces w n1 cs good) (hb : base ≤ n1) (hok : ∀ k, n1 ≤ k → ok k) (hpos : ∀ r ∈ good, 0 < r.length) : GRow w base ok G good := by
  refine ⟨A, c, cs, hG, own_lower ho hb, fun k hk => hok k (ho.lt k hk).1, fun i l hi => ?_⟩
  obtain ⟨x, hx⟩ : ∃ x, cs[i]? = some x := ⟨_, List.getElem?_eq_getElem (by rw [h.1]; exact (List.getElem?_eq_some_iff.1 hi).1)⟩
  obtain ⟨A', n', c', p', rfl, hp', ho'⟩ := h.2 i x hx
  rw [hi] at hp'
  injection hp' with hp'
  subst hp'
  have hl : l.length = n' := by have := ho'.1; simp [bv_length] at this; exact this
  exact ⟨_, hx, PgAt.of_own ho' (by rw [← hl]; exact hpos l (List.mem_of_getElem? hi)) hok⟩
end Go.Proofs.Ythijobbhpbklmaa
