/- LeafFour. -/
import Derived.Test.YtmljfjmceakahaaLEnt
import Derived.Test.YtmljfjmceakahaaRegion
import Derived.Deep.DeepCutAuto
namespace Go.Proofs.Ytmljfjmceakahaa
open Go.RowKit
set_option linter.unusedVariables false
set_option linter.unusedSimpArgs false

theorem RowB.kb {w : World} {g : Nat} {l : List UInt8} (h : RowB w g l) {n c : Nat} (hn : l.length = n) (hc : n ≤ c) : Kb w (some ⟨g, 0, none⟩) n c l := by
  subst hn
  exact ⟨rfl, hc, g, _, (0, 0), rfl, h, by simp [← bv_length]⟩

def gKey (b : UInt8) (i : Nat) : Bs := UInt8.ofNat i :: List.replicate (b.toNat % 96) 0
def gE (M : Nat) (kb lb : UInt8) (i : Nat) : LE := ⟨gKey kb i, List.replicate (M - 4 - (kb.toNat % 96 + 1) - lb.toNat % 9) 0, 0, 0⟩
def gEs (M : Nat) (ks ls : Bs) (k : Nat) : List LE := (List.range k).map fun j => gE M (ks.getD j 0) (ls.getD j 0) j
theorem gKey_length (b : UInt8) (i : Nat) : (gKey b i).length = b.toNat % 96 + 1 := by simp [gKey]
theorem gEs_succ (M : Nat) (ks ls : Bs) (k : Nat) {kb lb : UInt8} (h1 : ks[k]? = some kb) (h2 : ls[k]? = some lb) : gEs M ks ls (k + 1) = gEs M ks ls k ++ [gE M kb lb k] := by
  simp [gEs, List.range_succ, List.getD, h1, h2]
theorem gE_ok (M : Nat) (kb lb : UInt8) (i : Nat) : (gE M kb lb i).ok := ⟨by show (0 : Nat) < _; omega, by show (-9223372036854775808 : Int) ≤ 0; omega, by show (0 : Int) ≤ _; omega⟩
theorem gE_long (M : Nat) (hM : 125 ≤ M) (kb lb : UInt8) (i : Nat) : lLong (gE M kb lb i) + lb.toNat % 9 = M := by
  unfold lLong gE
  rw [if_neg (by simp)]
  simp only [gKey_length, List.length_replicate]
  omega
theorem gKey_cmp (b b' : UInt8) (i : Nat) (hi : i < 4) : Lib.compareBytes (gKey b i) (gKey b' (i + 1)) < 0 := by
  unfold gKey Lib.compareBytes
  rcases (by omega : i = 0 ∨ i = 1 ∨ i = 2 ∨ i = 3) with rfl | rfl | rfl | rfl <;> (rw [if_pos (by decide)]; omega)
theorem gE_lok (M : Nat) (S : Int) (hM : 125 ≤ M) (hS : (S - 4) / 4 - 2 = (M : Int)) (kb lb : UInt8) (i : Nat) : LOk (gE M kb lb i) S := by
  refine ⟨by show 1 ≤ (gKey kb i).length; rw [gKey_length]; omega, by show (gKey kb i).length ≤ 96; rw [gKey_length]; omega, ?_, ?_⟩
  · have := gE_long M hM kb lb i
    rw [hS]
    omega
  · rw [if_neg (by show ¬ 0 < (gE M kb lb i).first; simp [gE])]
    rfl
theorem gEs_right (M : Nat) (ks ls : Bs) (S : Int) (h1 : 512 ≤ S) (h2 : S ≤ 4096) (hM : 125 ≤ M) (hS : (S - 4) / 4 - 2 = (M : Int)) : LRight (gEs M ks ls 4) S := by
  refine ⟨h1, h2, fun i hi e he => ?_⟩
  have hi : i < 4 := by simpa [gEs] using hi
  have at_ : ∀ j, j < 4 → (gEs M ks ls 4)[j]? = some (gE M (ks.getD j 0) (ls.getD j 0) j) := fun j hj => by simp [gEs, hj]
  rw [at_ i hi] at he
  cases he
  refine ⟨gE_lok M S hM hS _ _ _, fun h0 e' he' => ?_⟩
  rw [at_ (i - 1) (by omega)] at he'
  cases he'
  have := gKey_cmp (ks.getD (i - 1) 0) (ks.getD i 0) (i - 1) (by omega)
  rw [show i - 1 + 1 = i by omega] at this
  exact this
theorem gEs_fill (M : Nat) (ks ls : Bs) (hM : 125 ≤ M) : lFill (gEs M ks ls 4) ≤ 4 + 4 * (M + 2) := by
  have h := fun a b i => gE_long M hM a b i
  have h0 := h (ks.getD 0 0) (ls.getD 0 0) 0
  have h1 := h (ks.getD 1 0) (ls.getD 1 0) 1
  have h2 := h (ks.getD 2 0) (ls.getD 2 0) 2
  have h3 := h (ks.getD 3 0) (ls.getD 3 0) 3
  have e : gEs M ks ls 4 = [gE M (ks.getD 0 0) (ls.getD 0 0) 0, gE M (ks.getD 1 0) (ls.getD 1 0) 1, gE M (ks.getD 2 0) (ls.getD 2 0) 2, gE M (ks.getD 3 0) (ls.getD 3 0) 3] := rfl
  rw [e]
  simp only [lFill, List.map_cons, List.map_nil, List.sum_cons, List.sum_nil]
  omega

theorem same_grown {w w8 : World} {o : Obj} {base n : Nat} {v : Value} {xs : List Value} (hown : w.ownsRow base 70 4 v n xs) (hg8 : (w.alloc o).grownBy w8 v.ownBlock) :
    ∀ (g : Nat) (C : Array Value) (fr : Nat × Nat), w.heap[g]? = some (.cells C 5 fr) → w8.heap[g]? = w.heap[g]? := fun g C fr hg =>
  have h1 := blk_alloc hg o
  ((hg8.block g (blk_lt h1) (own_neF (hown.alloc o) h1 (by decide))).trans h1).trans hg.symm
theorem LPk.setVal {w : World} {cs : List Value} {es : List LE} (h : LPk w cs es) {j : Nat} {e : LE} (he : es[j]? = some e) {v' : Bs} {A : Option Addr} {n c : Nat} (hv : Kb w A n c v') :
    LPk w (cs.set (j * 4 + 1) (.slice A n c)) (es.set j ⟨e.key, v', e.long, e.first⟩) := by
  have hl := h.1
  refine ⟨by simp [h.1], fun i e' hi => ?_⟩
  by_cases hij : i = j
  · subst hij
    have hlt := (List.getElem?_eq_some_iff.1 he).1
    rw [List.getElem?_set_self hlt] at hi
    cases hi
    obtain ⟨ho, Ak, nk, ck, Av, nv, cv, h1, h2, h3, h4, h5, h6⟩ := h.2 i e he
    refine ⟨ho, Ak, nk, ck, A, n, c, ?_, ?_, ?_, ?_, h5, hv⟩
    · rw [List.getElem?_set_ne (by omega)]; exact h1
    · rw [List.getElem?_set_self (by omega)]
    · rw [List.getElem?_set_ne (by omega)]; exact h3
    · rw [List.getElem?_set_ne (by omega)]; exact h4
  · rw [List.getElem?_set_ne (Ne.symm hij)] at hi
    obtain ⟨ho, Ak, nk, ck, Av, nv, cv, h1, h2, h3, h4, h5, h6⟩ := h.2 i e' hi
    refine ⟨ho, Ak, nk, ck, Av, nv, cv, ?_, ?_, ?_, ?_, h5, h6⟩
    · rw [List.getElem?_set_ne (by omega)]; exact h1
    · rw [List.getElem?_set_ne (by omega)]; exact h2
    · rw [List.getElem?_set_ne (by omega)]; exact h3
    · rw [List.getElem?_set_ne (by omega)]; exact h4
theorem gEs_sh (M : Nat) (hM : M ≤ 1021) (ks ls : Bs) (k : Nat) : LSh (gEs M ks ls k) := by
  intro e he
  obtain ⟨j, _, rfl⟩ := List.mem_map.1 he
  exact ⟨by show (gKey _ _).length ≤ _; rw [gKey_length]; omega, by show (List.replicate _ _).length ≤ _; rw [List.length_replicate]; omega⟩

theorem wp_make_bytesN {P : Program} (w : World) {o : Oper} {a : Act} {K : Act → World → Prop} {Q : Exit → Act → World → Prop}
    (l c : Operand) (t : TypeId) (hop : o.op = Op.makeSlice t l c) (h1 : P.underlying t = some (.slice 5))
    (hinfo : (P.info? 5).map (fun i => (i.zero, i.size, i.bytes)) = some (some (.int .u8 0), 1, 1))
    (kl kc : IntKind) (N : Int) (hl : a.eval l = .int kl N) (hc : a.eval c = .int kc N) (n : Nat) (hN : (n : Int) = N) (b2 : n ≤ 140737488355328)
    (hK : ∀ w', RowB w' w.heap.size (List.replicate n 0) → Below w.heap.size w w' → K (a.put o.dst (.slice (some ⟨w.heap.size, 0, none⟩) n n)) w') : o.wp P a w K Q := by
  subst hN
  obtain ⟨i, h2, h3, h4, h5⟩ := info_parts hinfo
  have hrun := run_make (P := P) w t 5 i _ h1 h2 h3 kl kc (n : Int) (n : Int) (by omega) (Int.le_refl _) (by rw [h5]; omega) (by omega)
  rw [h4] at hrun
  unfold Oper.wp
  simp [execOp, hop, hl, hc, hrun, Result.andThen]
  exact hK _ (by simpa using RowB.made w n) ((Below.refl _ _).alloc (Nat.le_refl _) _)

set_option maxRecDepth 100000 in
set_option maxHeartbeats 2000000 in
theorem leafFour_law (w : World) (S : Int) (A : Option Addr) (n c : Nat) (ks : Bs) (h : Sl w w.heap.size A n c ks) (A' : Option Addr) (n' c' : Nat) (ls : Bs) (h' : Sl w w.heap.size A' n' c' ls) :
    Calls Try.prog 11 #[.int .i64 S, .slice A n c, .slice A' n' c'] w fun e w' => e = .returned (.bool true) ∧ Below w.heap.size w w' := by
  obtain ⟨ib, bi0, bz0, bz1, bz2⟩ := info_parts info_lent
  go_enter Try.func11, Try.ntmps11
  go_wp2_with fail
  refine (awake4 w).mono ?_
  rintro e w1 ⟨rfl, hb1⟩
  by_cases c1 : S < 512
  · go_wp2_with fail
    go_ret
    exact ⟨rfl, hb1⟩
  by_cases c2 : 4096 < S
  · go_wp2_with fail
    go_ret
    exact ⟨rfl, hb1⟩
  by_cases c3 : n < 4
  · have d3 : decide ((n : Int) < 4) = true := decide_eq_true (by omega)
    go_wp2_with fail
    go_ret
    exact ⟨rfl, hb1⟩
  have d3 : decide ((n : Int) < 4) = false := decide_eq_false (by omega)
  by_cases c4 : n' < 4
  · have d4 : decide ((n' : Int) < 4) = true := decide_eq_true (by omega)
    go_wp2_with fail
    go_ret
    exact ⟨rfl, hb1⟩
  have d4 : decide ((n' : Int) < 4) = false := decide_eq_false (by omega)
  obtain ⟨N, rfl⟩ := Int.eq_ofNat_of_zero_le (show 0 ≤ S by omega)
  obtain ⟨M, hM⟩ := Int.eq_ofNat_of_zero_le (show 0 ≤ ((N : Int) - 4) / 4 - 2 by omega)
  have hM1 : 125 ≤ M := by omega
  have hM2 : M ≤ 1021 := by omega
  have hmost := fun W => most_any W (N : Int) (by omega) (by omega)
  rw [hM] at hmost
  have HMS := Lib.hid hM
  clear hM
  go_wp2_with fail
  go_loopw [8, 9] (fun v i wr => ∃ (k : Nat) (Av : Option Addr) (cv : Nat) (cs : List Value), i = .int .i64 (k : Int) ∧ k ≤ 4 ∧ v = .slice Av k cv ∧ wr.ownsRow w.heap.size 70 4 (.slice Av k cv) k cs ∧ LPk wr cs (gEs M ks ls k) ∧ Below w.heap.size w wr) (fun _ i _ => 4 - (intOf i).toNat)
  case atStart => exact ⟨0, none, 0, [], rfl, by omega, rfl, World.ownsRow_nil _ _ _ _, LPk.nil_ _, hb1⟩
  case round =>
    obtain ⟨k, Av, cv, cs, rfl, hk4, rfl, hown, hep, hbw⟩ := hrel
    clear d3 d4 hb1
    by_cases hlt : k < 4
    · obtain ⟨ad, kb, rfl, hB, hkb, hc⟩ := (h.below hbw).get (show k < n by omega)
      obtain ⟨lb, hlb⟩ : ∃ lb, ls[k]? = some lb := ⟨_, List.getElem?_eq_getElem (by rw [h'.len]; omega)⟩
      have hbs := hbw.size
      have hkn : k < n := by omega
      obtain ⟨L, hL⟩ : ∃ L, kb.toNat % 96 = L := ⟨_, rfl⟩
      have hL95 : L ≤ 95 := by omega
      have hbt := kb.toNat_lt
      have hm1 : ((kb.toNat : Int)).tmod 96 = (L : Int) := by rw [Int.tmod_eq_emod_of_nonneg (by omega)]; omega
      have hm2 : ((kb.toNat : Int)) % 96 = (L : Int) := by omega
      have HL := Lib.hid hL
      have HB := Lib.hid hkb
      have HLB := Lib.hid hlb
      clear hL hkb hlb
      go_upto_region 12 with (first | (at_make; refine wpList_make_bytesN _ rfl _ _ _ rfl Try.underlying23 info_u8 _ _ ((L : Int) + 1) rfl rfl (L + 1) (by omega) (by omega) ?_; intro w2 hr2 hb2; have hz2 := hr2.cell (i := 0) (b := 0) (by simp); have hf2 := hr2.frozen 0))
      have hkw : IntKind.u8.wrap (k : Int) = (k : Int) := by rw [IntKind.wrap_u8]; omega
      have hr3 : RowB (w2.setCell ⟨wr.heap.size, 0, none⟩ (.int .u8 (k : Int))) wr.heap.size (gKey kb k) := by
        have h1 := hr2.set_ 0 (UInt8.ofNat k)
        have e1 : (UInt8.ofNat k).toNat = k := by simp [UInt8.toNat_ofNat']; omega
        rw [e1] at h1
        have e2 : (List.replicate (L + 1) (0 : UInt8)).set 0 (UInt8.ofNat k) = gKey kb k := by unfold gKey; rw [HL.out, List.replicate_succ]; rfl
        rw [e2] at h1
        exact h1
      have hown3 : (w2.setCell ⟨wr.heap.size, 0, none⟩ (.int .u8 (k : Int))).ownsRow w.heap.size 70 4 (.slice Av k cv) k cs :=
        own_setCell (own_below hown hb2 (Nat.le_refl _)) (own_neF (own_below hown hb2 (Nat.le_refl _)) (show w2.heap[wr.heap.size]? = some (.cells (bv (List.replicate (L + 1) 0)).toArray 5 (0, 0)) from hr2) (by decide)) _
      have hep3 : LPk (w2.setCell ⟨wr.heap.size, 0, none⟩ (.int .u8 (k : Int))) cs (gEs M ks ls k) :=
        hep.same fun g C fr hg => (Below.heap_setCell _ _ _ _ (by have := blk_lt hg; simp; omega)).trans (hb2.block g (blk_lt hg))
      have hb3 : Below w.heap.size w (w2.setCell ⟨wr.heap.size, 0, none⟩ (.int .u8 (k : Int))) := (hbw.trans (hb2.mono hbs)).setCell (p := ⟨wr.heap.size, 0, none⟩) hbs _
      clear hz2 hf2 hc hm1 hm2
      generalize w2.setCell ⟨wr.heap.size, 0, none⟩ (.int .u8 (k : Int)) = W3 at hr3 hown3 hep3 hb3 ⊢
      have hb3s := hb3.size
      clear hr2 hb2 hown hep
      -- n
      obtain ⟨ad', lb', rfl, hB', hlb', hc'⟩ := (h'.below hb3).get (show k < n' by omega)
      obtain rfl : lb' = lb := Option.some.inj (hlb'.symm.trans HLB.out)
      obtain ⟨r, hr⟩ : ∃ r, lb'.toNat % 9 = r := ⟨_, rfl⟩
      have hbt' := lb'.toNat_lt
      have hm3 : ((lb'.toNat : Int)).tmod 9 = (r : Int) := by rw [Int.tmod_eq_emod_of_nonneg (by omega)]; omega
      have hm4 : ((lb'.toNat : Int)) % 9 = (r : Int) := by omega
      obtain ⟨M4, hM4⟩ : ∃ M4, M - 4 = M4 := ⟨_, rfl⟩
      obtain ⟨M5, hM5⟩ : ∃ M5, M4 - (L + 1) = M5 := ⟨_, rfl⟩
      obtain ⟨M6, hM6⟩ : ∃ M6, M5 - r = M6 := ⟨_, rfl⟩
      have s1 : (M : Int) - 4 = (M4 : Int) := by omega
      have s2 : (M4 : Int) - ((L : Int) + 1) = (M5 : Int) := by omega
      have s3 : (M5 : Int) - (r : Int) = (M6 : Int) := by omega
      have hw1 : IntKind.i64.wrap (M4 : Int) = (M4 : Int) := IntWalk.i64_in _ (by omega)
      have hw2 : IntKind.i64.wrap (M5 : Int) = (M5 : Int) := IntWalk.i64_in _ (by omega)
      have hw3 : IntKind.i64.wrap (M6 : Int) = (M6 : Int) := IntWalk.i64_in _ (by omega)
      have hM60 : 0 < M6 := by omega
      have hM6u : M6 ≤ 1021 := by omega
      have hkn1 : k < n' := by omega
      have HM6 : Hid (M - 4 - (kb.toNat % 96 + 1) - lb'.toNat % 9 = M6) := Lib.hid (by rw [HL.out, hr, hM4, hM5, hM6])
      have hM6z : (0 : Int) ≤ (M6 : Int) := by omega
      clear hM4 hM5 hM6 hr hlb'
      go_quiet (exact (hmost _).mono (fun e w'' hh => ⟨hh.1, _, hh.2.symm⟩))
      have hr4 : RowB (W3.drewN nq) wr.heap.size (gKey kb k) := hr3
      have hown4 : (W3.drewN nq).ownsRow w.heap.size 70 4 (.slice Av k cv) k cs := hown3
      have hep4 : LPk (W3.drewN nq) cs (gEs M ks ls k) := hep3
      have hb4 : Below w.heap.size w (W3.drewN nq) := below_drewN hb3 nq
      have hlt4 : wr.heap.size < (W3.drewN nq).heap.size := blk_lt hr4
      clear hr3 hown3 hep3 hb3 hc'
      generalize W3.drewN nq = W4 at hr4 hown4 hep4 hb4 hlt4 ⊢
      have hz4 := hb4.size
      have hmx : max (M6 : Int) 0 = (M6 : Int) := by omega
      go_wp2_with (first
        | (at_make; refine wpList_make_bytesN _ rfl _ _ _ rfl Try.underlying23 info_u8 _ _ (M6 : Int) rfl rfl M6 rfl (by omega) ?_; intro w5 hr5 hb5; have hown5 := own_below hown4 hb5 (Nat.le_refl _); have hz5 := hb5.size)
        | (at_builtin; refine wpList_append_any _ rfl (.tmp 64) (.tmp 70) _ rfl w.heap.size 70 ib _ 4 64 Try.underlying58 bi0 bz0 bz1 bz2 rfl (by omega) (.slice Av k cv) k cs rfl (hown5.alloc _) (w5.heap.size + 1) (some ⟨w5.heap.size, 0, none⟩) 1 1 [.slice (some ⟨wr.heap.size, 0, none⟩) (L + 1) (L + 1), .slice (some ⟨W4.heap.size, 0, none⟩) M6 M6, .int .i64 0, .int .u32 0] rfl (Reads.four _ _ _ _ _ _) (by simp [Value.oneCell']) (by unfold maxLen; omega) (by omega) (by simp; omega) ?_; intro v8 w8 hown8 hg8 hat8; obtain ⟨A8, c8, rfl⟩ := own_slice hown8))
      have hs8 := same_grown hown5 hg8
      have hb8 : Below w.heap.size w w8 := ((hb4.trans (hb5.mono hz4)).alloc (by omega) _).grown hg8 (by simp; omega) (fun k hk => own_base hown5 k hk)
      have hep5 := LPk.below hep4 hb5 (Nat.le_refl _)
      have hkey : Kb w5 (some ⟨wr.heap.size, 0, none⟩) (L + 1) (L + 1) (gE M kb lb' k).key := RowB.kb (show RowB w5 wr.heap.size (gKey kb k) from (hb5.block _ hlt4).trans hr4) (by rw [gKey_length, HL.out]) (Nat.le_refl _)
      have hval : Kb w5 (some ⟨W4.heap.size, 0, none⟩) M6 M6 (gE M kb lb' k).val := by
        show Kb w5 _ M6 M6 (List.replicate (M - 4 - (kb.toNat % 96 + 1) - lb'.toNat % 9) 0)
        rw [HM6.out]
        exact RowB.kb hr5 (by simp) (Nat.le_refl _)
      refine ⟨⟨k + 1, A8, c8, _, by go_num, by omega, rfl, hown8, ?_, hb8⟩, by simp [intOf]; omega⟩
      rw [gEs_succ M ks ls k HB.out HLB.out]
      exact LPk.snoc (hep5.same hs8) (gE_ok M kb lb' k) (hkey.same hs8) (hval.same hs8)
    · obtain rfl : k = 4 := by omega
      have hR := gEs_right M ks ls (N : Int) (by omega) (by omega) hM1 HMS.out
      have hF : lFill (gEs M ks ls 4) ≤ N := by have := gEs_fill M ks ls hM1; have := HMS.out; omega
      have hsz := hbw.size
      have hput := lput_ok wr _ Av 4 cv _ (hep.ents hown) (Nat.le_refl _) (by omega) N hR hF
      clear hF hR
      go_wp2_with fail
      refine hput.mono ?_
      rintro e w2 ⟨g, rfl, hg, _, hb2⟩
      have hown2 := own_below hown hb2 (Nat.le_refl _)
      have hep2 := hep.below hb2 (Nat.le_refl _)
      have hb3 := hbw.trans (hb2.mono hsz)
      have hz3 := hb3.size
      clear hput hown hep hbw hb2
      have hownK := hown2
      obtain ⟨hcl, hrow⟩ := hown2
      rcases hrow with ⟨_, h0⟩ | ⟨gy, cap, cur, hv, hgy, hhy, hcap, hcu, hszc, htk⟩
      · omega
      cases hv
      obtain ⟨ho1, A1, n1, c1', A2, n2, c2', x4, x5, _, _, hk1, hv1⟩ := hep2.2 1 (gE M (ks.getD 1 0) (ls.getD 1 0) 1) (by simp [gEs])
      have he1 : (gEs M ks ls 4)[1]? = some (gE M (ks.getD 1 0) (ls.getD 1 0) 1) := by simp [gEs]
      have hl1 : n1 ≤ 96 := by rw [← hk1.1]; show (gKey _ _).length ≤ _; rw [gKey_length]; omega
      have hkl := hk1.1
      have hro := Reads.of_own hownK
      obtain ⟨ad0, had0, _, hcl0⟩ := hro.2 (by omega)
      cases had0
      have y4 : w2.cell? ⟨gy, 4, none⟩ = some (.slice A1 n1 c1') := by have := hcl0 4 _ x4; simpa [Addr.add] using this
      have y5 : w2.cell? ⟨gy, 5, none⟩ = some (.slice A2 n2 c2') := by have := hcl0 5 _ x5; simpa [Addr.add] using this
      obtain ⟨M3, hM3⟩ : ∃ M3, M - 3 = M3 := ⟨_, rfl⟩
      obtain ⟨N2, hN2⟩ : ∃ N2, M3 - n1 = N2 := ⟨_, rfl⟩
      have s1 : (M : Int) - 3 = (M3 : Int) := by omega
      have s2 : (M3 : Int) - (n1 : Int) = (N2 : Int) := by omega
      have hw1 : IntKind.i64.wrap (M3 : Int) = (M3 : Int) := IntWalk.i64_in _ (by omega)
      have hw2 : IntKind.i64.wrap (N2 : Int) = (N2 : Int) := IntWalk.i64_in _ (by omega)
      have hgl := blk_lt hhy
      have HMN : Hid (N2 + n1 + 3 = M) := Lib.hid (by omega)
      have HKL := Lib.hid hkl
      clear hro hcl0 x4 x5 hk1 hv1 hM3 hN2 hkl htk ho1
      go_wp2_with fail
      refine wp_region_held_drew (S := (fun w' => w'.cell? ⟨gy, 4, none⟩ = some (.slice A1 n1 c1'))) (by kernel_rfl) ?_ (fun hHeld => ?_)
      · first | exact y4 | exact z4 | exact q4
      refine takeP (i := 0) rfl (by kernel_rfl) (by kernel_rfl) (by kernel_rfl) (fun _ _ _ h => h) (by rfl) (by assumption) (v := ?_) ?_ ?_
      rotate_left
      · intro w' hSw
        try dsimp only at hSw
        go_simp
        try with_reducible rfl
      try simp only [Act.put, List.setIfInBounds_toArray, List.set_cons_zero, List.set_cons_succ]
      refine takeP (i := 1) rfl (by kernel_rfl) (by kernel_rfl) (by kernel_rfl) (fun _ _ _ h => h) (by rfl) (by assumption) (v := ?_) ?_ ?_
      rotate_left
      · intro w' hSw
        try dsimp only at hSw
        go_simp
        try with_reducible rfl
      try simp only [Act.put, List.setIfInBounds_toArray, List.set_cons_zero, List.set_cons_succ]
      refine takeP (i := 4) rfl (by kernel_rfl) (by kernel_rfl) (by kernel_rfl) (fun _ _ _ h => h) (by rfl) (by assumption) (v := ?_) ?_ ?_
      rotate_left
      · intro w' hSw
        try dsimp only at hSw
        go_simp
        try with_reducible rfl
      try simp only [Act.put, List.setIfInBounds_toArray, List.set_cons_zero, List.set_cons_succ]
      refine takeP (i := 5) rfl (by kernel_rfl) (by kernel_rfl) (by kernel_rfl) (fun _ _ _ h => h) (by rfl) (by assumption) (v := ?_) ?_ ?_
      rotate_left
      · intro w' hSw
        try dsimp only at hSw
        go_simp
        try with_reducible rfl
      try simp only [Act.put, List.setIfInBounds_toArray, List.set_cons_zero, List.set_cons_succ]
      refine takeP (i := 6) rfl (by kernel_rfl) (by kernel_rfl) (by kernel_rfl) (fun _ _ _ h => h) (by rfl) (by assumption) (v := ?_) ?_ ?_
      rotate_left
      · intro w' hSw
        try dsimp only at hSw
        go_simp
        try with_reducible rfl
      try simp only [Act.put, List.setIfInBounds_toArray, List.set_cons_zero, List.set_cons_succ]
      refine takeP (i := 7) rfl (by kernel_rfl) (by kernel_rfl) (by kernel_rfl) (fun _ _ _ h => h) (by rfl) (by assumption) (v := ?_) ?_ ?_
      rotate_left
      · intro w' hSw
        try dsimp only at hSw
        go_simp
        try with_reducible rfl
      try simp only [Act.put, List.setIfInBounds_toArray, List.set_cons_zero, List.set_cons_succ]
      refine takeP (i := 8) rfl (by kernel_rfl) (by kernel_rfl) (by kernel_rfl) (fun _ _ _ h => h) (by rfl) (by assumption) (v := ?_) ?_ ?_
      rotate_left
      · intro w' hSw
        try dsimp only at hSw
        go_simp
        try with_reducible rfl
      try simp only [Act.put, List.setIfInBounds_toArray, List.set_cons_zero, List.set_cons_succ]
      refine carryP (i := 2) rfl (by kernel_rfl) (by rfl) (fun K hK => ?_)
      go_simp
      refine (hmost _).mono ?_
      rintro r w6 ⟨rfl, rfl⟩
      refine hK.out _ _ ?_ (fun hHeld => ?_)
      · first | exact y4 | exact z4 | exact q4
      clear hK K
      try simp only [Act.put, List.setIfInBounds_toArray, List.set_cons_zero, List.set_cons_succ]
      refine takeP (i := 3) rfl (by kernel_rfl) (by kernel_rfl) (by kernel_rfl) (fun _ _ _ h => h) (by rfl) (by assumption) (v := ?_) ?_ ?_
      rotate_left
      · intro w' hSw
        try dsimp only at hSw
        go_simp
        try with_reducible rfl
      try simp only [Act.put, List.setIfInBounds_toArray, List.set_cons_zero, List.set_cons_succ]
      refine takeP (i := 9) rfl (by kernel_rfl) (by kernel_rfl) (by kernel_rfl) (fun _ _ _ h => h) (by rfl) (by assumption) (v := ?_) ?_ ?_
      rotate_left
      · intro w' hSw
        try dsimp only at hSw
        go_simp
        try with_reducible rfl
      try simp only [Act.put, List.setIfInBounds_toArray, List.set_cons_zero, List.set_cons_succ]
      refine carryP (i := 10) rfl (by kernel_rfl) (by rfl) (fun K hK => ?_)
      refine wp_make_bytesN _ (.tmp 87) (.tmp 87) _ rfl Try.underlying23 info_u8 _ _ (N2 : Int) rfl rfl N2 rfl (by omega) ?_
      intro w7 hr7 hb7
      have z4 : w7.cell? ⟨gy, 4, none⟩ = some (.slice A1 n1 c1') := (hb7.cell (p := ⟨gy, 4, none⟩) hgl).trans y4
      refine hK.out _ _ ?_ (fun hHeld => ?_)
      · first | exact y4 | exact z4 | exact q4
      clear hK K
      try simp only [Act.put, List.setIfInBounds_toArray, List.set_cons_zero, List.set_cons_succ]
      refine takeP (i := 11) rfl (by kernel_rfl) (by kernel_rfl) (by kernel_rfl) (fun _ _ _ h => h) (by rfl) (by assumption) (v := ?_) ?_ ?_
      rotate_left
      · intro w' hSw
        try dsimp only at hSw
        go_simp
        try with_reducible rfl
      try simp only [Act.put, List.setIfInBounds_toArray, List.set_cons_zero, List.set_cons_succ]
      refine takeP (i := 12) rfl (by kernel_rfl) (by kernel_rfl) (by kernel_rfl) (fun _ _ _ h => h) (by rfl) (by assumption) (v := ?_) ?_ ?_
      rotate_left
      · intro w' hSw
        try dsimp only at hSw
        go_simp
        try with_reducible rfl
      try simp only [Act.put, List.setIfInBounds_toArray, List.set_cons_zero, List.set_cons_succ]
      refine carryP (i := 13) rfl (by kernel_rfl) (by rfl) (fun K hK => ?_)
      have z5 : w7.cell? ⟨gy, 5, none⟩ = some (.slice A2 n2 c2') := (hb7.cell (p := ⟨gy, 5, none⟩) hgl).trans y5
      have f5 : w7.frozen? ⟨gy, 5, none⟩ = false := blk_frozen (show w7.heap[gy]? = some (.cells cur 70 (0, 0)) from (hb7.block gy hgl).trans hhy) 5
      have q4 : (w7.setCell ⟨gy, 5, none⟩ (.slice (some ⟨w2.heap.size, 0, none⟩) N2 N2)).cell? ⟨gy, 4, none⟩ = some (.slice A1 n1 c1') := (World.cell?_setCell_other _ _ _ _ (by simp)).trans z4
      go_simp
      refine hK.out _ _ ?_ (fun hHeld => ?_)
      · first | exact y4 | exact z4 | exact q4
      clear hK K
      try simp only [Act.put, List.setIfInBounds_toArray, List.set_cons_zero, List.set_cons_succ]
      refine wpAnyH_done (by kernel_rfl) ?_ _
      have hb7' : Below w2.heap.size w2 w7 := (Below.drew (Below.refl w2.heap.size w2)).trans hb7
      have hown7 := own_below hownK hb7' (Nat.le_refl _)
      have hsm : ∀ (g : Nat) (C : Array Value) (fr : Nat × Nat), w7.heap[g]? = some (.cells C 5 fr) → (w7.setCell ⟨gy, 5, none⟩ (.slice (some ⟨w2.heap.size, 0, none⟩) N2 N2)).heap[g]? = w7.heap[g]? :=
        fun g C fr hg => Below.heap_setCell _ _ _ _ (fun e => own_neF hown7 hg (by decide) (congrArg some e))
      have hepS := ((LPk.below hep2 hb7' (Nat.le_refl _)).same hsm).setVal he1 ((RowB.kb hr7 (n := N2) (c := N2) (by simp) (Nat.le_refl _)).same hsm)
      have hownS := (hown7.stored 5 (.slice (some ⟨w2.heap.size, 0, none⟩) N2 N2)).1
      have hbS : Below w.heap.size w (w7.setCell ⟨gy, 5, none⟩ (.slice (some ⟨w2.heap.size, 0, none⟩) N2 N2)) := (hb3.trans (hb7'.mono hz3)).setCell (p := ⟨gy, 5, none⟩) hgy _
      have hsh : LSh ((gEs M ks ls 4).set 1 ⟨(gE M (ks.getD 1 0) (ls.getD 1 0) 1).key, List.replicate N2 0, (gE M (ks.getD 1 0) (ls.getD 1 0) 1).long, (gE M (ks.getD 1 0) (ls.getD 1 0) 1).first⟩) := by
        intro x hx
        rcases List.mem_or_eq_of_mem_set hx with hx | rfl
        · exact gEs_sh M hM2 ks ls 4 x hx
        · exact ⟨by show (gKey _ _).length ≤ _; rw [gKey_length]; omega, by show (List.replicate _ _).length ≤ _; rw [List.length_replicate]; omega⟩
      have hnR : ¬ LRight ((gEs M ks ls 4).set 1 ⟨(gE M (ks.getD 1 0) (ls.getD 1 0) 1).key, List.replicate N2 0, (gE M (ks.getD 1 0) (ls.getD 1 0) 1).long, (gE M (ks.getD 1 0) (ls.getD 1 0) 1).first⟩) (N : Int) := by
        intro hR
        have h1 := ((hR.2.2 1 (by simp [gEs])) _ (List.getElem?_set_self (by simp [gEs]))).1.2.2.1
        unfold lLong at h1
        rw [if_neg (by simp [gE]), HMS.out] at h1
        have h2 := HMN.out
        have h3 := HKL.out
        simp only [List.length_replicate] at h1
        omega
      generalize w7.setCell ⟨gy, 5, none⟩ (.slice (some ⟨w2.heap.size, 0, none⟩) N2 N2) = w8 at hepS hownS hbS ⊢
      have harg := lput_arg w8 _ _ _ cv _ (hepS.ents hownS) (Nat.le_refl _) (by omega) hsh (N : Int) hnR
      clear hnR hsh hepS hownS
      go_wp2_with fail
      refine harg.mono ?_
      rintro e w9 ⟨rfl, hb9⟩
      clear harg
      go_wp2_with fail
      go_ret
      exact ⟨rfl, hbS.trans (hb9.mono hbS.size)⟩

end Go.Proofs.Ytmljfjmceakahaa
