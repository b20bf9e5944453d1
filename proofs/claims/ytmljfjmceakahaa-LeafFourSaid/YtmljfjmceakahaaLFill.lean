/- leaf.Fill; Entry.right; Right. -/
import Derived.Test.YtmljfjmceakahaaLeaf
import Derived.Test.YtmljfjmceakahaaBCmpP
namespace Go.Proofs.Ytmljfjmceakahaa
open Go.RowKit
set_option linter.unusedVariables false
set_option linter.unusedSimpArgs false

/-- Keys and values that are short enough for all sums. -/
def LSh (es : List LE) : Prop := ∀ e ∈ es, e.key.length ≤ 1000000 ∧ e.val.length ≤ 1000000
theorem lLong_le (e : LE) (h : e.key.length ≤ 1000000 ∧ e.val.length ≤ 1000000) : lLong e ≤ 2000010 := by
  unfold lLong
  split <;> omega

set_option maxRecDepth 100000 in
theorem lfill_any (w : World) (B : Nat) (A : Option Addr) (n c : Nat) (es : List LE) (h : LEnts w B A n es) (hBw : B ≤ w.heap.size) (hn : n ≤ 1000000) (hk : LSh es) :
    Calls Try.prog 33 #[.slice A n c] w fun e w' => e = .returned (.int .i64 (lFill es : Nat)) ∧ Below w.heap.size w w' := by
  go_enter Try.func33, Try.ntmps33
  go_wp2_with fail
  go_loopw [3, 8] (fun f i wr => ∃ k F : Nat, k ≤ n ∧ f = .int .i64 (F : Int) ∧ i = .int .i64 (k : Int) ∧ Hid (F = lFill (es.take k)) ∧ F ≤ 4 + k * 2000012 ∧ Below w.heap.size w wr) (fun _ i _ => n - (intOf i).toNat)
  case atStart => exact ⟨0, 4, Nat.zero_le _, rfl, rfl, Lib.hid (by simp [lFill]), by omega, Below.refl _ _⟩
  case round =>
    obtain ⟨k, F, hkn, rfl, rfl, hF, hFb, hbw⟩ := hrel
    by_cases hlt : k < n
    · obtain ⟨e, ad, Ak, nk, ck, Av, nv, cv, he, ho, rfl, hl⟩ := (h.below (hbw.mono hBw)).at_ hlt
      have hbs := hbw.size
      obtain ⟨a0, a1, a2, a3⟩ := hl.cells
      have hsh := hk _ (List.mem_of_getElem? he)
      have hks := hl.2.2.2.2.2.1.len
      have hvs := hl.2.2.2.2.2.2.len
      have hcell := fun W => lcell_any W e Ak nk ck Av nv cv hks hvs (by omega) (by omega)
      have hlong := lLong_le e hsh
      have hFk : F + 2 + lLong e = lFill (es.take (k + 1)) := by rw [lFill_take he, ← hF.out]
      obtain ⟨L, hL⟩ : ∃ L, lLong e = L := ⟨_, rfl⟩
      rw [hL] at hcell hlong hFk
      have HFk := Lib.hid hFk
      have hba := hbw.alloc hbs (lObj e Ak nk ck Av nv cv)
      clear hFk he hks hvs hL hl
      go_wp2_with fail
      refine (hcell _).mono ?_
      rintro r w1 ⟨rfl, hb1⟩
      have hb2 := hba.trans (hb1.mono hba.size)
      clear hcell a0 a1 a2 a3
      go_wp2_with fail
      refine ⟨⟨k + 1, F + 2 + L, hlt, by go_num, by go_num, HFk, by omega, hb2⟩, by simp [intOf]; omega⟩
    · obtain rfl : k = n := by omega
      go_wp2_with fail
      go_ret
      have hFF := hF.out
      rw [List.take_of_length_le (by rw [h.1]; exact Nat.le_refl _)] at hFF
      subst hFF
      exact ⟨rfl, hbw⟩

/-- An entry may be in a page of size S. -/
def LOk (e : LE) (S : Int) : Prop := 1 ≤ e.key.length ∧ e.key.length ≤ 96 ∧ (lLong e : Int) ≤ (S - 4) / 4 - 2 ∧ (if 0 < e.first then e.val.length = 0 ∧ 1 ≤ e.long ∧ e.long ≤ 32768 else e.long = 0)
def LOkP (e : LE) (S : Int) (w : World) (r : Ending) (w' : World) : Prop := ∃ b, r = .returned (.bool b) ∧ (b = true ↔ LOk e S) ∧ Below w.heap.size w w'
theorem LOkP.no {e : LE} {S : Int} {w w' : World} (h : ¬ LOk e S) (hb : Below w.heap.size w w') : LOkP e S w (.returned (.bool false)) w' := ⟨false, rfl, by simpa using h, hb⟩
theorem LOkP.yes {e : LE} {S : Int} {w w' : World} (h : LOk e S) (hb : Below w.heap.size w w') : LOkP e S w (.returned (.bool true)) w' := ⟨true, rfl, by simpa using h, hb⟩

set_option maxRecDepth 100000 in
theorem lok_any (w : World) (e : LE) (Ak : Option Addr) (nk ck : Nat) (Av : Option Addr) (nv cv : Nat) (hk : e.key.length = nk) (hv : e.val.length = nv) (h1 : nk ≤ 9223372036854775807) (h2 : nv ≤ 1000000) (ho : e.ok) (S : Int) (hS1 : 512 ≤ S) (hS2 : S ≤ 4096) :
    Calls Try.prog 57 #[lVal e Ak nk ck Av nv cv, .int .i64 S] w (LOkP e S w) := by
  have hb0 : Below w.heap.size w (w.alloc (lObj e Ak nk ck Av nv cv)) := (Below.refl _ _).alloc (Nat.le_refl _) _
  have hq0 := heap_alloc_new w (lObj e Ak nk ck Av nv cv)
  have HQ := Lib.hid hq0
  obtain ⟨Q, hQ⟩ : ∃ Q : Prop, Q = LOk e S := ⟨_, rfl⟩
  have hQo : LOk e S ↔ 1 ≤ nk ∧ nk ≤ 96 ∧ (lLong e : Int) ≤ (S - 4) / 4 - 2 ∧ (if 0 < e.first then nv = 0 ∧ 1 ≤ e.long ∧ e.long ≤ 32768 else e.long = 0) := by unfold LOk; rw [hk, hv]
  clear hq0
  by_cases c1 : nk < 1
  · have d1 : decide ((nk : Int) < 1) = true := decide_eq_true (by omega)
    have hno : ¬ LOk e S := fun hh => by have := (hQo.1 hh).1; omega
    clear hQo hQ HQ hk hv
    go_enter Try.func57, Try.ntmps57
    go_wp2_with fail
    go_ret
    exact LOkP.no hno hb0
  have d1 : decide ((nk : Int) < 1) = false := decide_eq_false (by omega)
  by_cases c2 : 96 < nk
  · have d2 : decide (96 < (nk : Int)) = true := decide_eq_true (by omega)
    have hno : ¬ LOk e S := fun hh => by have := (hQo.1 hh).2.1; omega
    clear hQo hQ HQ hk hv
    go_enter Try.func57, Try.ntmps57
    go_wp2_with fail
    go_ret
    exact LOkP.no hno hb0
  have d2 : decide (96 < (nk : Int)) = false := decide_eq_false (by omega)
  have hcell := lcell_any (w.alloc (lObj e Ak nk ck Av nv cv)) e Ak nk ck Av nv cv hk hv (by omega) h2
  have hmost := fun W => most_any W S hS1 hS2
  obtain ⟨L, hL⟩ : ∃ L, lLong e = L := ⟨_, rfl⟩
  obtain ⟨M, hM⟩ : ∃ M, (S - 4) / 4 - 2 = M := ⟨_, rfl⟩
  rw [hL] at hcell hQo
  rw [hM] at hmost hQo
  by_cases c3 : M < (L : Int)
  · have d3 : decide (M < (L : Int)) = true := decide_eq_true c3
    have hno : ¬ LOk e S := fun hh => by have := (hQo.1 hh).2.2.1; omega
    clear hQo hQ hk hv hL hM
    go_enter Try.func57, Try.ntmps57
    go_wp2_with fail
    refine hcell.mono ?_
    rintro r w1 ⟨rfl, hb1'⟩
    have hb1 := hb0.trans (hb1'.mono hb0.size)
    go_wp2_with (first | (go_at_call 41; refine (hmost _).mono ?_; rintro r w' ⟨rfl, rfl⟩))
    go_ret
    exact LOkP.no hno hb1
  have d3 : decide (M < (L : Int)) = false := decide_eq_false c3
  by_cases c4 : 0 < e.first
  · have d4 : decide ((0 : Int) < (e.first : Int)) = true := decide_eq_true (by omega)
    rw [if_pos c4] at hQo
    have hno : ¬ (nv = 0 ∧ 1 ≤ e.long ∧ e.long ≤ 32768) → ¬ LOk e S := fun h hh => h (hQo.1 hh).2.2.2
    have hyes : nv = 0 ∧ 1 ≤ e.long ∧ e.long ≤ 32768 → LOk e S := fun h => hQo.2 ⟨by omega, by omega, by omega, h⟩
    clear hQo hQ hk hv hL hM
    by_cases c5 : nv = 0
    · subst c5
      by_cases c6 : e.long < 1
      · have d6 : decide (1 ≤ e.long) = false := decide_eq_false (by omega)
        replace hno := hno (by omega)
        clear hyes
        go_enter Try.func57, Try.ntmps57
        go_wp2_with fail
        refine hcell.mono ?_
        rintro r w1 ⟨rfl, hb1'⟩
        have hb1 := hb0.trans (hb1'.mono hb0.size)
        obtain ⟨e0, e1, e2, e3⟩ := cell4 (blk_below HQ.out hb1' (blk_lt HQ.out))
        go_wp2_with (first | (go_at_call 41; refine (hmost _).mono ?_; rintro r w' ⟨rfl, rfl⟩))
        go_ret
        exact LOkP.no hno hb1
      · have d6 : decide (1 ≤ e.long) = true := decide_eq_true (by omega)
        by_cases c7 : 32768 < e.long
        · have d7 : decide (e.long ≤ 32768) = false := decide_eq_false (by omega)
          replace hno := hno (by omega)
          clear hyes
          go_enter Try.func57, Try.ntmps57
          go_wp2_with fail
          refine hcell.mono ?_
          rintro r w1 ⟨rfl, hb1'⟩
          have hb1 := hb0.trans (hb1'.mono hb0.size)
          obtain ⟨e0, e1, e2, e3⟩ := cell4 (blk_below HQ.out hb1' (blk_lt HQ.out))
          go_wp2_with (first | (go_at_call 41; refine (hmost _).mono ?_; rintro r w' ⟨rfl, rfl⟩))
          go_ret
          exact LOkP.no hno hb1
        · have d7 : decide (e.long ≤ 32768) = true := decide_eq_true (by omega)
          replace hyes := hyes ⟨rfl, by omega, by omega⟩
          clear hno
          go_enter Try.func57, Try.ntmps57
          go_wp2_with fail
          refine hcell.mono ?_
          rintro r w1 ⟨rfl, hb1'⟩
          have hb1 := hb0.trans (hb1'.mono hb0.size)
          obtain ⟨e0, e1, e2, e3⟩ := cell4 (blk_below HQ.out hb1' (blk_lt HQ.out))
          go_wp2_with (first | (go_at_call 41; refine (hmost _).mono ?_; rintro r w' ⟨rfl, rfl⟩))
          go_ret
          exact LOkP.yes hyes hb1
    · have d5 : ((nv : Int) == 0) = false := by simpa using c5
      replace hno := hno (by omega)
      clear hyes c5
      go_enter Try.func57, Try.ntmps57
      go_wp2_with fail
      refine hcell.mono ?_
      rintro r w1 ⟨rfl, hb1'⟩
      have hb1 := hb0.trans (hb1'.mono hb0.size)
      obtain ⟨e0, e1, e2, e3⟩ := cell4 (blk_below HQ.out hb1' (blk_lt HQ.out))
      go_wp2_with (first | (go_at_call 41; refine (hmost _).mono ?_; rintro r w' ⟨rfl, rfl⟩))
      go_ret
      exact LOkP.no hno hb1
  · have d4 : decide ((0 : Int) < (e.first : Int)) = false := decide_eq_false (by omega)
    rw [if_neg c4] at hQo
    have hno : ¬ (e.long = 0) → ¬ LOk e S := fun h hh => h (hQo.1 hh).2.2.2
    have hyes : e.long = 0 → LOk e S := fun h => hQo.2 ⟨by omega, by omega, by omega, h⟩
    clear hQo hQ hk hv hL hM
    by_cases c5 : e.long = 0
    · have d5 : (e.long == 0) = true := by simpa using c5
      replace hyes := hyes c5
      clear hno c5
      go_enter Try.func57, Try.ntmps57
      go_wp2_with fail
      refine hcell.mono ?_
      rintro r w1 ⟨rfl, hb1'⟩
      have hb1 := hb0.trans (hb1'.mono hb0.size)
      obtain ⟨e0, e1, e2, e3⟩ := cell4 (blk_below HQ.out hb1' (blk_lt HQ.out))
      go_wp2_with (first | (go_at_call 41; refine (hmost _).mono ?_; rintro r w' ⟨rfl, rfl⟩))
      go_ret
      exact LOkP.yes hyes hb1
    · have d5 : (e.long == 0) = false := by simpa using c5
      replace hno := hno c5
      clear hyes c5
      go_enter Try.func57, Try.ntmps57
      go_wp2_with fail
      refine hcell.mono ?_
      rintro r w1 ⟨rfl, hb1'⟩
      have hb1 := hb0.trans (hb1'.mono hb0.size)
      obtain ⟨e0, e1, e2, e3⟩ := cell4 (blk_below HQ.out hb1' (blk_lt HQ.out))
      go_wp2_with (first | (go_at_call 41; refine (hmost _).mono ?_; rintro r w' ⟨rfl, rfl⟩))
      go_ret
      exact LOkP.no hno hb1

end Go.Proofs.Ytmljfjmceakahaa
