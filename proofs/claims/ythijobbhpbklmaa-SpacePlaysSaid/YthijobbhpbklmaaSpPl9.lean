/- SRecs; SNil -/
import Derived.Test.YthijobbhpbklmaaSpPl7
import Derived.Test.YthijobbhpbklmaaSpPl8
import Derived.Deep.RegionHeld3
import Derived.Deep.Slices
/- Space.Records. -/
namespace Go.Proofs.Ythijobbhpbklmaa
open Go.RowKit
set_option linter.unusedVariables false
set_option linter.unusedSimpArgs false

/-- The cells of some records. -/
def RowsOf (w : World) (base : Nat) (ok : Nat → Prop) (cs : List Value) (rs : List FRc) : Prop :=
  cs.length = rs.length * 2 ∧ ∀ (i : Nat) (r : FRc), rs[i]? = some r → ∃ A' n' c', cs[i * 2]? = some (.int .u64 (r.1 : Int)) ∧ cs[i * 2 + 1]? = some (.slice A' n' c') ∧ w.ownsRow base 73 1 (.slice A' n' c') n' (r.2.map encP) ∧ ∀ k, (Value.slice A' n' c').ownBlock = some k → ok k
section
variable {w w' : World} {base : Nat} {ok : Nat → Prop}
theorem RowsOf.app {cs1 cs2 : List Value} {rs1 rs2 : List FRc} (h1 : RowsOf w base ok cs1 rs1) (h2 : RowsOf w base ok cs2 rs2) : RowsOf w base ok (cs1 ++ cs2) (rs1 ++ rs2) := by
  refine ⟨by rw [List.length_append, List.length_append, h1.1, h2.1]; omega, fun i r hi => ?_⟩
  by_cases hlt : i < rs1.length
  · rw [List.getElem?_append_left hlt] at hi
    obtain ⟨A', n', c', a1, a2, a3⟩ := h1.2 i r hi
    have := h1.1
    exact ⟨A', n', c', by rw [List.getElem?_append_left (by omega)]; exact a1, by rw [List.getElem?_append_left (by omega)]; exact a2, a3⟩
  · rw [List.getElem?_append_right (by omega)] at hi
    obtain ⟨A', n', c', a1, a2, a3⟩ := h2.2 _ r hi
    have := h1.1
    exact ⟨A', n', c', by rw [List.getElem?_append_right (by omega), show i * 2 - cs1.length = (i - rs1.length) * 2 by omega]; exact a1, by rw [List.getElem?_append_right (by omega), show i * 2 + 1 - cs1.length = (i - rs1.length) * 2 + 1 by omega]; exact a2, a3⟩
theorem RowsOf.keep {cs : List Value} {rs : List FRc} (h : RowsOf w base ok cs rs) (hk : ∀ (g : Nat) (C : Array Value), w.heap[g]? = some (.cells C 73 (0, 0)) → w'.heap[g]? = w.heap[g]?) : RowsOf w' base ok cs rs :=
  ⟨h.1, fun i r hi => by
    obtain ⟨A', n', c', a1, a2, a3, a4⟩ := h.2 i r hi
    exact ⟨A', n', c', a1, a2, own_move_ a3 (fun g C _ hC => hk g C hC), a4⟩⟩
theorem RowsOf.one_ {A : Option Addr} {n c : Nat} {T : Nat} {pl : List Nat} (h : w.ownsRow base 73 1 (.slice A n c) n (pl.map encP)) (hk : ∀ k, (Value.slice A n c).ownBlock = some k → ok k) : RowsOf w base ok [.int .u64 (T : Int), .slice A n c] [(T, pl)] :=
  ⟨rfl, fun i r hi => by
    have hl := (List.getElem?_eq_some_iff.1 hi).1
    simp at hl
    subst hl
    simp at hi
    subst hi
    exact ⟨A, n, c, rfl, rfl, h, hk⟩⟩
theorem RowsOf.weak {ok' : Nat → Prop} {cs : List Value} {rs : List FRc} (h : RowsOf w base ok cs rs) (hk : ∀ k, ok k → ok' k) : RowsOf w base ok' cs rs :=
  ⟨h.1, fun i r hi => by
    obtain ⟨A', n', c', a1, a2, a3, a4⟩ := h.2 i r hi
    exact ⟨A', n', c', a1, a2, a3, fun k hx => hk k (a4 k hx)⟩⟩
theorem RowsOf.ones {cs : List Value} {rs : List FRc} (h : RowsOf w base ok cs rs) : ∀ u ∈ cs, u.oneCell' = true := by
  intro u hu
  obtain ⟨j, hj⟩ := List.getElem?_of_mem hu
  have hjl := (List.getElem?_eq_some_iff.1 hj).1
  have := h.1
  obtain ⟨r, hr⟩ : ∃ r, rs[j / 2]? = some r := ⟨_, List.getElem?_eq_getElem (show j / 2 < rs.length by omega)⟩
  obtain ⟨A', n', c', a1, a2, _⟩ := h.2 _ r hr
  rcases Nat.mod_two_eq_zero_or_one j with e | e
  · rw [show j / 2 * 2 = j by omega, hj] at a1
    injection a1 with a1
    subst a1
    rfl
  · rw [show j / 2 * 2 + 1 = j by omega, hj] at a2
    injection a2 with a2
    subst a2
    rfl
theorem WRow.split {v : Value} {rs : List FRc} (h : WRow w base ok v rs) : ∃ A c cs, v = .slice A rs.length c ∧ w.ownsRow base 101 2 v rs.length cs ∧ (∀ k, v.ownBlock = some k → ok k) ∧ RowsOf w base ok cs rs := by
  obtain ⟨A, c, cs, h1, h2, h3, h4⟩ := h
  exact ⟨A, c, cs, h1, h2, h3, h2.1, h4⟩
theorem WRow.join {v : Value} {rs : List FRc} {A : Option Addr} {c : Nat} {cs : List Value} (h1 : v = .slice A rs.length c) (h2 : w.ownsRow base 101 2 v rs.length cs) (h3 : ∀ k, v.ownBlock = some k → ok k) (h4 : RowsOf w base ok cs rs) : WRow w base ok v rs := ⟨A, c, cs, h1, h2, h3, h4.2⟩
theorem wrow_append {w8 : World} {A1 : Option Addr} {n1 c1 : Nat} {cs1 cs2 : List Value} {rs1 rs2 : List FRc} {v8 : Value} (hn : rs1.length = n1) (h1 : w.ownsRow base 101 2 (.slice A1 n1 c1) n1 cs1) (k1 : ∀ k, (Value.slice A1 n1 c1).ownBlock = some k → ok k) (r1 : RowsOf w base ok cs1 rs1) (r2 : RowsOf w base ok cs2 rs2) (hfr : ∀ k, w.heap.size ≤ k → ok k)
    (hown8 : w8.ownsRow base 101 2 v8 (n1 + rs2.length) (cs1 ++ cs2)) (hg8 : w.grownBy w8 (Value.slice A1 n1 c1).ownBlock) (hat8 : v8.ownBlock = (Value.slice A1 n1 c1).ownBlock ∨ v8.ownBlock = some w.heap.size) : WRow w8 base ok v8 (rs1 ++ rs2) := by
  obtain ⟨A8, c8, rfl⟩ := own_slice hown8
  have hk : ∀ (g : Nat) (C : Array Value), w.heap[g]? = some (.cells C 73 (0, 0)) → w8.heap[g]? = w.heap[g]? := fun g C hg => hg8.block g (blk_lt hg) (own_ne h1 hg (by decide))
  refine WRow.join (A := A8) (c := c8) (by rw [List.length_append, hn]) (by rw [List.length_append, hn]; exact hown8) (fun k hk => ?_) ((r1.keep hk).app (r2.keep hk))
  rcases hat8 with e | e
  · exact k1 k (e ▸ hk)
  · rw [e] at hk
    injection hk with hk
    exact hfr k (by omega)
theorem WRow.rec_ {v : Value} {rs : List FRc} (h : WRow w base ok v rs) {i : Nat} {r : FRc} (hi : rs[i]? = some r) : ∃ ad c Ap np cp, v = .slice (some ad) rs.length c ∧ RcAt w w.heap.size (ad.add (i * 2)) r Ap np cp ∧ np ≤ cp ∧ (Ap = none → cp = 0) := by
  obtain ⟨A, c, cs, rfl, ho, _, hr⟩ := h.split
  obtain ⟨A', n', c', a1, a2, a3, _⟩ := hr.2 i r hi
  have hlt := (List.getElem?_eq_some_iff.1 hi).1
  have hrd := Reads.of_own ho
  obtain ⟨ad, rfl, hB, hcell⟩ := hrd.2 (by omega)
  have e1 := hcell _ _ a1
  have e2 := hcell _ _ a2
  refine ⟨ad, c, A', n', c', rfl, ⟨by rw [block_of_add]; exact hB, e1, by rw [Go.Deep.add_add]; exact e2, Reads.of_own a3⟩, ?_⟩
  rcases a3.2 with ⟨e, hz⟩ | ⟨g, cap, cur, e, _, _, q1, _⟩
  · injection e with z1 z2 z3
    subst z2 z3
    exact ⟨Nat.le_refl _, fun _ => rfl⟩
  · injection e with z1 z2 z3
    subst z1 z3
    exact ⟨q1, fun e => by cases e⟩
end
theorem reads_two (w : World) (a b : Value) (t : TypeId) : Reads (w.alloc (.cells #[a, b] t)) (w.heap.size + 1) 2 (some ⟨w.heap.size, 0, none⟩) 1 [a, b] := by
  have hb : (w.alloc (.cells #[a, b] t)).heap[w.heap.size]? = some (.cells #[a, b] t (0, 0)) := heap_alloc_new w _
  refine ⟨rfl, fun _ => ⟨_, rfl, by simp, fun j u hu => ?_⟩⟩
  rw [Addr.add_lit, Nat.zero_add, blk_cell hb]
  simpa using hu
theorem htk_ {α : Type} {l : List α} {k : Nat} {x : α} (h : l[k]? = some x) : l.take (k + 1) = l.take k ++ [x] := by rw [List.take_add_one, h]; rfl
/-- All records that are free behind a change. -/
def sRecs (S : Sp) (t : Nat) : List FRc := (rec1 S.us 0 ++ S.wait) ++ rec1 S.gn t
set_option maxRecDepth 100000 in
set_option maxHeartbeats 4000000 in
theorem srecs_any {m : Nat} (HS : SortsAt m) (hm6 : m ≤ 1000000) (w : World) (p : Nat) (S : Sp) (base : Nat) (ok : Nat → Prop) (h : SpAt w base ok p S) (hus : S.us.length ≤ m) (hgn : S.gn.length ≤ m) (hwl : S.wait.length ≤ 1000) (hpl : ∀ r ∈ S.wait, r.1 < 18446744073709551616 ∧ r.2.length ≤ 1000000) (t : Nat) (ht : t < 18446744073709551616) :
    Calls Try.prog 51 #[.pointer (some ⟨p, 0, none⟩), .int .u64 (t : Int)] w fun e w' => ∃ v, e = .returned v ∧ WRow w' w.heap.size (fun k => w.heap.size ≤ k) v (sRecs S t) ∧ Below w.heap.size w w' := by
  obtain ⟨Wv, bu, bf, bg, bh, h⟩ := h
  obtain ⟨ir, ri0, rz0, rz1, rz2⟩ := info_parts info_rec
  obtain ⟨_, _, c2, c3, _, c5, _⟩ := h.blk.cells
  have hp := blk_lt h.blk
  have hrec := record_any HS hm6 w bu S.us h.su hus 0 (by omega) w.heap.size (Nat.le_refl _)
  obtain ⟨Aw, cw, csw, rfl, _⟩ := h.row.split
  obtain ⟨n, hn⟩ : ∃ n, S.wait.length = n := ⟨_, rfl⟩
  have HROW := Lib.hid h.row
  have HSG := Lib.hid h.sg
  have HN := Lib.hid hn
  rw [hn] at c2 hwl
  have HPL := Lib.hid hpl
  clear h hn hpl
  go_enter Try.func51, Try.ntmps51
  go_wp2_with fail
  refine hrec.mono ?_
  rintro x w1 ⟨v1, rfl, hr1, hb1⟩
  have d2 : w1.cell? ⟨p, 2, none⟩ = some (.slice Aw n cw) := (hb1.cell hp).trans c2
  have HR1 := Lib.hid hr1
  have HB1 := Lib.hid hb1
  have hz1 := hb1.size
  clear hr1 hb1 c2 c3 hrec
  go_wp2_with fail
  clear d2
  go_loopw [5, 20] (fun o i wr => ∃ (k : Nat) (out : Value), k ≤ n ∧ o = out ∧ i = .int .i64 (k : Int) ∧ Hid (WRow wr w.heap.size (fun k => w.heap.size ≤ k) out (rec1 S.us 0 ++ S.wait.take k)) ∧ Hid (RowKit.Below w.heap.size w wr)) (fun _ i _ => n - (intOf i).toNat)
  case atStart => exact ⟨0, v1, Nat.zero_le _, rfl, rfl, Lib.hid (by rw [List.take_zero, List.append_nil]; exact HR1.out), HB1⟩
  case round =>
    obtain ⟨k, out, hk, rfl, rfl, HO, HB⟩ := hrel
    have hzr := HB.out.size
    by_cases hlt : k < n
    · obtain ⟨r, hrk⟩ : ∃ r, S.wait[k]? = some r := ⟨_, List.getElem?_eq_getElem (by rw [HN.out]; exact hlt)⟩
      obtain ⟨ad, cw', Ap, np, cp, hWv, hRC0, hc1, hc2⟩ := HROW.out.rec_ hrk
      injection hWv with e1 e2 e3
      subst e1 e3
      clear e2
      have hRC := hRC0.below HB.out
      obtain ⟨hadB, ca, cb, hpg⟩ := hRC
      have cb : wr.cell? ⟨(ad.add (k * 2)).block, (ad.add (k * 2)).off + 1, none⟩ = some (.slice Ap np cp) := cb
      obtain ⟨hr1, hnp⟩ := HPL.out r (List.mem_of_getElem? hrk)
      have HRK := Lib.hid hrk
      obtain ⟨T, pl⟩ := r
      have hT : T < 18446744073709551616 := hr1
      have hpl1 : pl.length = np := by have : (Pgs pl).length = np * 1 := hpg.1; rw [Pgs_length] at this; omega
      have hnp : np ≤ 1000000 := by rw [← hpl1]; exact hnp
      have HPG := Lib.hid hpg
      clear hRC0 hpg hr1 hrk
      have hbe := heap_alloc_new wr (.cells #[.int .u64 (T : Int), .slice Ap np cp] 101)
      obtain ⟨A0, c0, cs0, hout, hO0, hK0, hR0⟩ := HO.out.split
      obtain ⟨RL, hRL⟩ : ∃ RL, (rec1 S.us 0 ++ S.wait.take k).length = RL := ⟨_, rfl⟩
      have hRLb : RL ≤ 1001 := by
        rw [← hRL, List.length_append, List.length_take]
        have := rec1_len S.us 0
        omega
      rw [hRL] at hout hO0
      subst hout
      have hLT : ∀ x, (Value.slice A0 RL c0).ownBlock = some x → x < wr.heap.size := fun x hx => (hO0.lt x hx).2
      have hO1 := own_move_ (w' := wr.alloc (.cells #[.int .u64 (T : Int), .slice Ap np cp] 101)) hO0 (fun g C _ hC => Below.heap_alloc wr _ g (blk_lt hC))
      have hR1 := RowsOf.keep (w' := wr.alloc (.cells #[.int .u64 (T : Int), .slice Ap np cp] 101)) hR0 (fun g C hC => Below.heap_alloc wr _ g (blk_lt hC))
      have HO0 := Lib.hid hO1
      have HRO := Lib.hid hR1
      have HRL := Lib.hid hRL
      have HK0 := Lib.hid hK0
      have hLT' := hLT
      clear hO0 hR0 hO1 hR1 hK0 hRL hLT
      go_wp2_with fail
      have hz0 : (wr.alloc (.cells #[.int .u64 (T : Int), .slice Ap np cp] 101)).heap.size = wr.heap.size + 1 := by simp
      have hB0 := Lib.hid (HB.out.alloc HB.out.size (.cells #[.int .u64 (T : Int), .slice Ap np cp] 101))
      have hPG0 := HPG.out.below ((Below.refl wr.heap.size wr).alloc (Nat.le_refl _) (.cells #[.int .u64 (T : Int), .slice Ap np cp] 101) |>.mono hzr)
      generalize wr.alloc (.cells #[.int .u64 (T : Int), .slice Ap np cp] 101) = wi at hB0 hz0 hbe HO0 HRO hPG0 ⊢
      obtain ⟨bx, hbxe⟩ : ∃ bx, wr.heap.size = bx := ⟨_, rfl⟩
      rw [hbxe] at hbe hz0 hLT' hzr ⊢
      have HLT := Lib.hid hLT'
      clear hLT' ca cb
      have hxb := blk2 hbe
      have hq0 : wi.drew.cell? ⟨bx, 0, none⟩ = some (.int .u64 (T : Int)) ∧ wi.drew.cell? ⟨bx, 1, none⟩ = some (.slice Ap np cp) := ⟨hxb.1, hxb.2.1⟩
      have hcl := pclone_any wi.drew w.heap.size Ap np cp pl hPG0.drew hc2 hc1 (by omega)
      have hzw : w.heap.size ≤ wi.heap.size := by omega
      have hbxz : bx < wi.heap.size := by omega
      clear hPG0
      refine wp_region_held_drew (S := (fun w' => w'.cell? ⟨bx, 0, none⟩ = some (.int .u64 (T : Int)) ∧ w'.cell? ⟨bx, 1, none⟩ = some (.slice Ap np cp))) (by kernel_rfl) ?_ (fun hHeld => ?_)
      · first | exact hq8 | exact hq2 _ | exact hq1 | exact hq0
      refine takeP (i := 0) rfl (by kernel_rfl) (by kernel_rfl) (by kernel_rfl) (fun _ _ _ h => h) (by rfl) (by assumption) (v := ?_) ?_ ?_
      rotate_left
      · intro w' hSw
        try dsimp only at hSw
        go_simp
        try with_reducible rfl
      try simp only [Act.put, List.setIfInBounds_toArray, List.set_cons_zero, List.set_cons_succ]
      refine takeP (i := 1) rfl (by kernel_rfl) (by kernel_rfl) (by kernel_rfl) (fun _ _ _ h => h) (by rfl) (by assumption) (v := ?_) ?_ ?_
      rotate_left
      · intro w' hSw
        try dsimp only at hSw
        go_simp
        try with_reducible rfl
      try simp only [Act.put, List.setIfInBounds_toArray, List.set_cons_zero, List.set_cons_succ]
      refine takeP (i := 2) rfl (by kernel_rfl) (by kernel_rfl) (by kernel_rfl) (fun _ _ _ h => h) (by rfl) (by assumption) (v := ?_) ?_ ?_
      rotate_left
      · intro w' hSw
        try dsimp only at hSw
        go_simp
        try with_reducible rfl
      try simp only [Act.put, List.setIfInBounds_toArray, List.set_cons_zero, List.set_cons_succ]
      refine takeP (i := 3) rfl (by kernel_rfl) (by kernel_rfl) (by kernel_rfl) (fun _ _ _ h => h) (by rfl) (by assumption) (v := ?_) ?_ ?_
      rotate_left
      · intro w' hSw
        try dsimp only at hSw
        go_simp
        try with_reducible rfl
      try simp only [Act.put, List.setIfInBounds_toArray, List.set_cons_zero, List.set_cons_succ]
      refine takeP (i := 4) rfl (by kernel_rfl) (by kernel_rfl) (by kernel_rfl) (fun _ _ _ h => h) (by rfl) (by assumption) (v := ?_) ?_ ?_
      rotate_left
      · intro w' hSw
        try dsimp only at hSw
        go_simp
        try with_reducible rfl
      try simp only [Act.put, List.setIfInBounds_toArray, List.set_cons_zero, List.set_cons_succ]
      refine carryP (i := 5) rfl (by kernel_rfl) (by rfl) (fun K hK => ?_)
      go_simp
      refine hcl.mono ?_
      rintro x2 w5 ⟨v5, rfl, hown5, hb5⟩
      obtain ⟨A5, c5, rfl⟩ := own_slice hown5
      have hz5 : wi.heap.size ≤ w5.heap.size := hb5.size
      have hbx5 := (hb5.block bx hbxz).trans hbe
      have hq1 : w5.cell? ⟨bx, 0, none⟩ = some (.int .u64 (T : Int)) ∧ w5.cell? ⟨bx, 1, none⟩ = some (.slice Ap np cp) := ⟨(blk2 hbx5).1, (blk2 hbx5).2.1⟩
      have hq2 : ∀ oo, (w5.alloc oo).cell? ⟨bx, 0, none⟩ = some (.int .u64 (T : Int)) ∧ (w5.alloc oo).cell? ⟨bx, 1, none⟩ = some (.slice Ap np cp) := fun oo => ⟨(blk2 (blk_alloc hbx5 oo)).1, (blk2 (blk_alloc hbx5 oo)).2.1⟩
      refine hK.out _ _ ?_ (fun hHeld => ?_)
      · first | exact hq8 | exact hq2 _ | exact hq1 | exact hq0
      clear hK K
      try simp only [Act.put, List.setIfInBounds_toArray, List.set_cons_zero, List.set_cons_succ]
      refine takeP (i := 6) rfl (by kernel_rfl) (by kernel_rfl) (by kernel_rfl) (fun _ _ _ h => h) (by rfl) (by assumption) (v := ?_) ?_ ?_
      rotate_left
      · intro w' hSw
        try dsimp only at hSw
        go_simp
        try with_reducible rfl
      try simp only [Act.put, List.setIfInBounds_toArray, List.set_cons_zero, List.set_cons_succ]
      refine carryP (i := 7) rfl (by kernel_rfl) (by rfl) (fun K hK => ?_)
      go_simp
      refine hK.out _ _ ?_ (fun hHeld => ?_)
      · first | exact hq8 | exact hq2 _ | exact hq1 | exact hq0
      clear hK K
      try simp only [Act.put, List.setIfInBounds_toArray, List.set_cons_zero, List.set_cons_succ]
      refine carryP (i := 8) rfl (by kernel_rfl) (by rfl) (fun K hK => ?_)
      have hkk : ∀ (tmp : Obj) (g : Nat) (C : Array Value) (ty : TypeId), wi.heap[g]? = some (.cells C ty (0, 0)) → (w5.alloc tmp).heap[g]? = wi.heap[g]? := fun tmp g C ty hC => (Below.heap_alloc w5 tmp g (by have := blk_lt hC; omega)).trans (hb5.block g (blk_lt hC))
      have ho6 : ∀ tmp : Obj, (w5.alloc tmp).ownsRow w.heap.size 101 2 (.slice A0 RL c0) RL cs0 := fun (tmp : Obj) => own_move_ HO0.out (fun g C _ hC => hkk tmp g C _ hC)
      refine wp_append_any _ (.tmp 24) (.tmp 31) _ rfl w.heap.size 101 ir _ 2 32 Try.underlying66 ri0 rz0 rz1 rz2 rfl (by omega) (.slice A0 RL c0) RL _ (by rfl) (ho6 _) (w5.heap.size + 1) (some ⟨w5.heap.size, 0, none⟩) 1 1 [.int .u64 (T : Int), .slice A5 np c5] (by rfl) (reads_two _ _ _ _) (by simp [Value.oneCell']) (by unfold maxLen; omega) (by omega) (by simp; omega) ?_
      intro v8 w8 hown8 hg8 hat8
      have hW8 : WRow w8 w.heap.size (fun k => w.heap.size ≤ k) v8 ((rec1 S.us 0 ++ S.wait.take k) ++ [(T, pl)]) := by
        have hr5 : ∀ tmp : Obj, RowsOf (w5.alloc tmp) w.heap.size (fun k => w.heap.size ≤ k) [.int .u64 (T : Int), .slice A5 np c5] [(T, pl)] := fun tmp => RowsOf.one_ (own_move_ (own_weaken hown5 (show w.heap.size ≤ wi.heap.size by omega)) (fun g C _ hC => Below.heap_alloc w5 tmp g (blk_lt hC))) (fun k hk => by have := (hown5.lt k hk).1; have h9 : wi.heap.size ≤ k := this; show w.heap.size ≤ k; omega)
        refine wrow_append (rs1 := rec1 S.us 0 ++ S.wait.take k) (n1 := RL) HRL.out (ho6 _) HK0.out (HRO.out.keep (fun g C hC => hkk _ g C _ hC)) (hr5 _) (fun k hk => ?_) (by simpa using hown8) hg8 hat8
        have : wi.heap.size + 1 ≤ k := by simp at hk; omega
        show w.heap.size ≤ k
        omega
      have hB8 : RowKit.Below w.heap.size w w8 := (((hB0.out.trans ((Below.refl _ wi).drew.mono hzw)).trans (hb5.mono hzw)).alloc (by omega) _).grown hg8 (by simp; omega) (fun k hk => by first | exact HK0.out k hk | exact HK0.out k hk.symm)
      have hbx8 : w8.heap[bx]? = some (.cells #[.int .u64 (T : Int), .slice Ap np cp] 101 (0, 0)) := (hg8.block bx (by simp; omega) (fun ee => by
        have := (HO0.out.lt bx ee.symm).2
        have := HLT.out bx ee.symm
        omega)).trans (blk_alloc hbx5 _)
      have hq8 : w8.cell? ⟨bx, 0, none⟩ = some (.int .u64 (T : Int)) ∧ w8.cell? ⟨bx, 1, none⟩ = some (.slice Ap np cp) := ⟨(blk2 hbx8).1, (blk2 hbx8).2.1⟩
      refine hK.out _ _ ?_ (fun hHeld => ?_)
      · first | exact hq8 | exact hq2 _ | exact hq1 | exact hq0
      clear hK K
      try simp only [Act.put, List.setIfInBounds_toArray, List.set_cons_zero, List.set_cons_succ]
      refine takeP (i := 9) rfl (by kernel_rfl) (by kernel_rfl) (by kernel_rfl) (fun _ _ _ h => h) (by rfl) (by assumption) (v := ?_) ?_ ?_
      rotate_left
      · intro w' hSw
        try dsimp only at hSw
        go_simp
        try with_reducible rfl
      try simp only [Act.put, List.setIfInBounds_toArray, List.set_cons_zero, List.set_cons_succ]
      refine wpAnyH_done (by kernel_rfl) ?_ _
      have HW8 := Lib.hid hW8
      have HB8 := Lib.hid hB8
      clear hW8 hB8 hq0 hq1 hq2 hq8 hbx8 hbx5 hbe hxb hown8 hg8 hat8 hkk ho6 hown5 hb5 hcl hHeld
      go_wp2_with fail
      exact ⟨⟨k + 1, v8, by omega, rfl, by go_num, Lib.hid (by rw [htk_ HRK.out, ← List.append_assoc]; exact HW8.out), HB8⟩, by simp [intOf]; omega⟩
    · obtain rfl : k = n := by omega
      have hall : S.wait.take k = S.wait := List.take_of_length_le (by rw [HN.out]; exact Nat.le_refl _)
      rw [hall] at HO
      clear hall
      have d5 : wr.cell? ⟨p, 5, none⟩ = some (.map (some bg)) := (HB.out.cell hp).trans c5
      obtain ⟨A0, c0, cs0, hout, hO0, hK0, hR0⟩ := HO.out.split
      obtain ⟨RL, hRL⟩ : ∃ RL, (rec1 S.us 0 ++ S.wait).length = RL := ⟨_, rfl⟩
      have hRLb : RL ≤ 1001 := by
        rw [← hRL, List.length_append, HN.out]
        have := rec1_len S.us 0
        omega
      rw [hRL] at hout hO0
      subst hout
      have hrec := record_any HS hm6 wr bg S.gn (HSG.out.below HB.out HSG.out.lt) hgn t ht w.heap.size hzr
      have HO0 := Lib.hid hO0
      have HRO := Lib.hid hR0
      have HRL := Lib.hid hRL
      have HK0 := Lib.hid hK0
      clear hO0 hR0 hK0 hRL
      go_wp2_with fail
      refine hrec.mono ?_
      rintro x w6 ⟨v6, rfl, hr6, hb6⟩
      obtain ⟨A6, c6, cs6, rfl, hO6, hK6, hR6⟩ := hr6.split
      have ho0 : w6.ownsRow w.heap.size 101 2 (.slice A0 RL c0) RL cs0 := own_move_ HO0.out (fun g C _ hC => hb6.block g (blk_lt hC))
      have hrr := Reads.of_own hO6
      have hz6 := hb6.size
      have hl6 := rec1_len S.gn t
      have h1c : ∀ u ∈ cs6, u.oneCell' = true := hR6.ones
      go_wp2_with (first | (at_builtin; refine wpList_append_any _ rfl (.tmp 34) (.tmp 40) _ rfl w.heap.size 101 ir _ 2 32 Try.underlying66 ri0 rz0 rz1 rz2 rfl (by omega) (.slice A0 RL c0) RL _ (by rfl) ho0 w6.heap.size A6 (rec1 S.gn t).length c6 cs6 (by rfl) hrr h1c (by unfold maxLen; omega) (by omega) (by omega) ?_))
      intro v8 w8 hown8 hg8 hat8
      go_wp2_with fail
      go_ret
      refine ⟨v8, rfl, ?_, (HB.out.trans (hb6.mono hzr)).grown hg8 (by omega) (fun k hk => HK0.out k hk)⟩
      exact wrow_append (rs1 := rec1 S.us 0 ++ S.wait) (n1 := RL) HRL.out ho0 HK0.out (HRO.out.keep (fun g C hC => hb6.block g (blk_lt hC))) (hR6.weak (fun k hk => by omega)) (fun k hk => by omega) hown8 hg8 hat8
end Go.Proofs.Ythijobbhpbklmaa

/- Layer 8: the calls on no space. -/
namespace Go.Proofs.Ythijobbhpbklmaa
open Go.RowKit
set_option linter.unusedVariables false
set_option linter.unusedSimpArgs false

theorem take_nil (w : World) : Calls Try.prog 44 #[.pointer none] w fun e w' => e = .returned (.tuple #[.int .u32 0, .int .i64 1]) ∧ w = w' := by
  go_enter Try.func44, Try.ntmps44
  go_wp2
  go_ret2
  exact ⟨rfl, rfl⟩
theorem give_nil (w : World) (q : Nat) : Calls Try.prog 46 #[.pointer none, .int .u32 (q : Int)] w fun e w' => e = .returned (.int .i64 1) ∧ Below w.heap.size w w' := by
  go_enter Try.func46, Try.ntmps46
  go_wp2_with fail
  go_ret
  exact ⟨rfl, by first | exact Below.refl _ _ | exact (Below.refl _ _).drew⟩
theorem fresh_nil (w : World) (q : Nat) : Calls Try.prog 48 #[.pointer none, .int .u32 (q : Int)] w fun e w' => e = .returned (.bool false) ∧ w = w' := by
  go_enter Try.func48, Try.ntmps48
  go_wp2
  go_ret
  exact ⟨rfl, rfl⟩
theorem end_nil (w : World) : Calls Try.prog 49 #[.pointer none] w fun e w' => e = .returned (.int .u32 0) ∧ w = w' := by
  go_enter Try.func49, Try.ntmps49
  go_wp2
  go_ret
  exact ⟨rfl, rfl⟩
theorem usable_nil (w : World) : Calls Try.prog 53 #[.pointer none] w fun e w' => e = .returned (.int .i64 0) ∧ w = w' := by
  go_enter Try.func53, Try.ntmps53
  go_wp2
  go_ret
  exact ⟨rfl, rfl⟩
theorem records_nil (w : World) (t : Nat) : Calls Try.prog 51 #[.pointer none, .int .u64 (t : Int)] w fun e w' => e = .returned (.slice none 0 0) ∧ w = w' := by
  go_enter Try.func51, Try.ntmps51
  go_wp2
  go_ret
  exact ⟨rfl, rfl⟩
end Go.Proofs.Ythijobbhpbklmaa
