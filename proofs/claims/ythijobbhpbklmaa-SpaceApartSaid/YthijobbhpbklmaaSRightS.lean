/- space.Right. -/
import Derived.Test.YthijobbhpbklmaaSRec
import Derived.Deep.QuietTactic
import Derived.BigQuiet
namespace Go.Proofs.Ythijobbhpbklmaa
open Go.RowKit
set_option linter.unusedVariables false
set_option linter.unusedSimpArgs false

/-- All pages of records. -/
def rpAll (rs : List FRc) : List Nat := rs.flatMap (·.2)
theorem rpAll_snoc (rs : List FRc) (r : FRc) : rpAll (rs ++ [r]) = rpAll rs ++ r.2 := by simp [rpAll]
def RPage (rs : List FRc) (e k : Nat) (pl : List Nat) (j p : Nat) : Prop := 2 ≤ p ∧ p < e ∧ (∀ q, 0 < j → pl[j - 1]? = some q → q < p) ∧ p ∉ rpAll (rs.take k) ++ pl.take j
def RRec (rs : List FRc) (e k : Nat) (r : FRc) : Prop := r.2 ≠ [] ∧ (∀ q, 0 < k → rs[k - 1]? = some q → q.1 < r.1) ∧ ∀ j p, r.2[j]? = some p → RPage rs e k r.2 j p
/-- Records that may be. -/
def SpRight (rs : List FRc) (e : Nat) : Prop := ∀ k r, rs[k]? = some r → RRec rs e k r
theorem rpAll_take_le (rs : List FRc) {k : Nat} {r : FRc} (h : rs[k]? = some r) (j : Nat) : (rpAll (rs.take k) ++ r.2.take j).length ≤ (rpAll rs).length := by
  have h1 : rs = rs.take k ++ r :: rs.drop (k + 1) := by
    obtain ⟨hi, rfl⟩ := List.getElem?_eq_some_iff.1 h
    rw [← List.drop_eq_getElem_cons hi, List.take_append_drop]
  have h2 : (rpAll rs).length = (rpAll (rs.take k)).length + r.2.length + (rpAll (rs.drop (k + 1))).length := by
    conv => lhs; rw [h1]
    simp [rpAll]
    omega
  rw [List.length_append, List.length_take]
  omega
theorem rtake_succ {α : Type} {es : List α} {k : Nat} {e : α} (h : es[k]? = some e) : es.take (k + 1) = es.take k ++ [e] := by rw [List.take_add_one, h]; rfl

def SpRightP (rs : List FRc) (e : Nat) (w : World) (x : Ending) (w' : World) : Prop := ∃ b, x = .returned (.bool b) ∧ (b = true ↔ SpRight rs e) ∧ Below w.heap.size w w'
theorem SpRightP.no {rs : List FRc} {e : Nat} {w w' : World} (h : ¬ SpRight rs e) (hb : Below w.heap.size w w') : SpRightP rs e w (.returned (.bool false)) w' := ⟨false, rfl, by simp [h], hb⟩

set_option maxRecDepth 100000 in
set_option maxHeartbeats 4000000 in
theorem spright_any (w : World) (B : Nat) (A : Option Addr) (n c : Nat) (rs : List FRc) (h : Recs w B A n rs) (hBw : B ≤ w.heap.size) (hok : FROk rs) (hn : n ≤ 1000000000) (hpl : ∀ r ∈ rs, r.2.length ≤ 1000000000) (htot : (rpAll rs).length ≤ 1000000000) (e : Nat) :
    Calls Try.prog 42 #[.slice A n c, .int .u32 (e : Int)] w (SpRightP rs e w) := by
  have hmm := @run_makeMap Try.prog
  have hlen := h.1
  go_enter Try.func42, Try.ntmps42
  go_wp2_with fail
  have hm0 := MSet.made w
  have hb0 : Below w.heap.size w (w.alloc (.map #[] 0)) := (Below.refl _ _).alloc (Nat.le_refl _) _
  obtain ⟨mb, hmb⟩ : ∃ mb, w.heap.size = mb := ⟨_, rfl⟩
  have HMB := Lib.hid hmb
  have hmbl : w.heap.size ≤ mb := by omega
  rw [hmb] at hm0 ⊢
  clear hmb hmm
  go_loopw [13] (fun i wr => ∃ k : Nat, k ≤ n ∧ i = .int .i64 (k : Int) ∧ MSet wr mb (rpAll (rs.take k)) ∧ Hid (∀ k' r, k' < k → rs[k']? = some r → RRec rs e k' r) ∧ Below w.heap.size w wr) (fun i _ => n - (intOf i).toNat)
  case atStart => exact ⟨0, Nat.zero_le _, rfl, by simpa [rpAll] using hm0, Lib.hid (fun _ _ h => absurd h (by omega)), hb0⟩
  case round =>
    obtain ⟨k, hk, rfl, hms, hpre, hbw⟩ := hrel
    clear hm0 hb0
    by_cases hlt : k < n
    · obtain ⟨r, ad, Ap, np, cp, hr, rfl, hRC0⟩ := h.at_ hlt
      have hRC := hRC0.below (hbw.mono hBw)
      obtain ⟨hadB, ca, cb, _⟩ := hRC
      have cb : wr.cell? ⟨(ad.add (k * 2)).block, (ad.add (k * 2)).off + 1, none⟩ = some (.slice Ap np cp) := cb
      obtain ⟨hr1, hr2⟩ := hok r (List.mem_of_getElem? hr)
      have hnp := hpl r (List.mem_of_getElem? hr)
      have hpl1 : r.2.length = np := by have := hRC0.2.2.2.1; rw [Pgs_length] at this; omega
      have hbs := hbw.size
      have HR := Lib.hid hr
      have HPL := Lib.hid hpl1
      have HPG := Lib.hid (fun (W : World) (hW : Below w.heap.size w W) (j : Nat) (hj : j < np) => (by
        obtain ⟨adp, u, e1, e2, e3, e4⟩ := (hRC0.2.2.2.below (hW.mono hBw)).at_ hj
        simp only [Pgs, List.getElem?_map, Option.map_eq_some_iff] at e3
        obtain ⟨p, hp, rfl⟩ := e3
        exact ⟨p, adp, hp, e1, e4, e2⟩ : ∃ (p : Nat) (adp : Addr), r.2[j]? = some p ∧ Ap = some adp ∧ W.cell? (adp.add j) = some (.int .u32 (p : Int)) ∧ adp.block < B))
      rw [hpl1] at hnp
      clear hr hpl1 hRC0
      -- the record's own box
      have hb1 : Below w.heap.size w (wr.alloc (.cells #[.int .u64 (r.1 : Int), .slice Ap np cp] 101)) := hbw.alloc hbs _
      have hms1 := hms.below (w' := wr.alloc (.cells #[.int .u64 (r.1 : Int), .slice Ap np cp] 101)) ((Below.refl wr.heap.size wr).alloc (Nat.le_refl _) _) hms.lt
      have hbx := heap_alloc_new wr (.cells #[.int .u64 (r.1 : Int), .slice Ap np cp] 101)
      obtain ⟨bx, hbxe⟩ : ∃ bx, wr.heap.size = bx := ⟨_, rfl⟩
      go_wp2_with fail
      generalize wr.alloc (.cells #[.int .u64 (r.1 : Int), .slice Ap np cp] 101) = W1 at hb1 hms1 hbx ⊢
      rw [hbxe] at hbx
      have hbxw : w.heap.size ≤ bx := by omega
      have x0 := blk_cell hbx 0
      have x1 := blk_cell hbx 1
      have hmbx : bx ≠ mb := hms1.ne hbx
      clear hms hbxe
      by_cases hnp0 : np = 0
      · have hno : Hid (¬ SpRight rs e) := Lib.hid fun hh => (hh k r HR.out).1 (List.eq_nil_of_length_eq_zero (by rw [HPL.out]; exact hnp0))
        have e1 : (np == 0) = true := by simp [hnp0]
        have e2 : ((np : Int) == 0) = true := by simp [hnp0]
        go_quiet (fail)
        go_wp2_with fail
        go_ret
        exact SpRightP.no hno.out (below_drewN hb1 _)
      have e1 : (np == 0) = false := by simp [hnp0]
      have e2 : ((np : Int) == 0) = false := by simp; omega
      by_cases hk0 : k = 0
      · have hrise : Hid (∀ q, 0 < k → rs[k - 1]? = some q → q.1 < r.1) := Lib.hid fun q hq => absurd hq (by omega)
        have f1 : decide (0 < k) = false := decide_eq_false (by omega)
        have f2 : decide ((0 : Int) < (k : Int)) = false := decide_eq_false (by omega)
        have a0 : True := trivial
        clear hk0
        go_quiet (fail)
        have hms2 : MSet (W1.drewN nq) mb (rpAll (rs.take k)) := hms1
        have hb2 : Below w.heap.size w (W1.drewN nq) := below_drewN hb1 nq
        have hbx2 : (W1.drewN nq).heap[bx]? = some (.cells #[.int .u64 (r.1 : Int), .slice Ap np cp] 101 (0, 0)) := hbx
        generalize W1.drewN nq = W2 at hms2 hb2 hbx2 ⊢
        have y0 := blk_cell hbx2 0
        have y1 := blk_cell hbx2 1
        clear hms1 hb1 x0 x1 hbx a0
        go_wp2_with fail
        clear y0 y1
        obtain ⟨wo, hwo⟩ : ∃ wo : World, wo = wr := ⟨_, rfl⟩
        subst hwo
        go_loopw [40] (fun i wr => ∃ j : Nat, j ≤ np ∧ i = .int .i64 (j : Int) ∧ MSet wr mb (rpAll (rs.take k) ++ r.2.take j) ∧ Hid (∀ j' p, j' < j → r.2[j']? = some p → RPage rs e k r.2 j' p) ∧ wr.heap[bx]? = some (.cells #[.int .u64 (r.1 : Int), .slice Ap np cp] 101 (0, 0)) ∧ Below w.heap.size w wr) (fun i _ => np - (intOf i).toNat)
        case atStart => exact ⟨0, Nat.zero_le _, rfl, by simpa using hms2, Lib.hid (fun _ _ h => absurd h (by omega)), hbx2, hb2⟩
        case round =>
          obtain ⟨j, hj, rfl, hms, hpj, hbx, hbw2⟩ := hrel
          clear hms2 hbx2 hb2
          have x0 := blk_cell hbx 0
          have x1 := blk_cell hbx 1
          by_cases hjl : j < np
          · obtain ⟨p, adp, hp, rfl, hcp, hpB⟩ := HPG.out wr hbw2 j hjl
            have HP := Lib.hid hp
            have hp32 : p < 4294967296 := hr2 p (List.mem_of_getElem? hp)
            clear hp
            by_cases c1 : p < 2
            · have hno : Hid (¬ SpRight rs e) := Lib.hid fun hh => by have := ((hh k r HR.out).2.2 j p HP.out).1; omega
              have e3 : decide (p < 2) = true := decide_eq_true c1
              have e3' : decide ((p : Int) < 2) = true := decide_eq_true (by omega)
              go_wp2_with fail
              go_ret
              exact SpRightP.no hno.out hbw2
            have e3 : decide (p < 2) = false := decide_eq_false c1
            have e3' : decide ((p : Int) < 2) = false := decide_eq_false (by omega)
            by_cases c2 : e ≤ p
            · have hno : Hid (¬ SpRight rs e) := Lib.hid fun hh => by have := ((hh k r HR.out).2.2 j p HP.out).2.1; omega
              have e4 : decide (e ≤ p) = true := decide_eq_true c2
              go_wp2_with fail
              go_ret
              exact SpRightP.no hno.out hbw2
            have e4 : decide (e ≤ p) = false := decide_eq_false c2
            by_cases hj0 : 0 < j
            · have g1 : decide (0 < j) = true := decide_eq_true hj0
              have g2 : decide ((0 : Int) < (j : Int)) = true := decide_eq_true (by omega)
              obtain ⟨j1, hj1⟩ : ∃ j1, j1 + 1 = j := ⟨j - 1, by omega⟩
              have hj1i : (j : Int) - 1 = (j1 : Int) := by omega
              have hj1l : j1 < np := by omega
              obtain ⟨q, adq, hq, e', hcq, _⟩ := HPG.out wr hbw2 j1 hj1l
              cases e'
              have hjj : j - 1 = j1 := by omega
              have HJ1 := Lib.hid hjj
              have HQ := Lib.hid hq
              clear hj1 hjj hq
              by_cases c3 : p ≤ q
              · have hno : Hid (¬ SpRight rs e) := Lib.hid fun hh => by have := ((hh k r HR.out).2.2 j p HP.out).2.2.1 q hj0 (by rw [HJ1.out]; exact HQ.out); omega
                have e5 : decide (p ≤ q) = true := decide_eq_true c3
                go_wp2_with fail
                go_ret
                exact SpRightP.no hno.out hbw2
              have e5 : decide (p ≤ q) = false := decide_eq_false c3
              have hrj : Hid (∀ q', 0 < j → r.2[j - 1]? = some q' → q' < p) := Lib.hid fun q' _ hq' => by
                rw [HJ1.out, HQ.out] at hq'
                cases hq'
                omega
              have hSl : (rpAll (rs.take k) ++ r.2.take j).length ≤ 1000000000 := Nat.le_trans (rpAll_take_le rs HR.out j) htot
              have hS1 : rpAll (rs.take k) ++ r.2.take (j + 1) = (rpAll (rs.take k) ++ r.2.take j) ++ [p] := by rw [rtake_succ HP.out, List.append_assoc]
              obtain ⟨S, hS⟩ : ∃ S, rpAll (rs.take k) ++ r.2.take j = S := ⟨_, rfl⟩
              rw [hS] at hms hSl hS1
              have HS := Lib.hid hS
              have HS1 := Lib.hid hS1
              clear hS hS1
              by_cases hin : p ∈ S
              · have hno : Hid (¬ SpRight rs e) := Lib.hid fun hh => ((hh k r HR.out).2.2 j p HP.out).2.2.2 (by rw [HS.out]; exact hin)
                have hd : decide (p ∈ S) = true := decide_eq_true hin
                clear hin
                go_wp2_with fail
                refine (has_any _ _ S hms p hp32).mono ?_
                rintro x w3 ⟨rfl, hb3'⟩
                rw [hd]
                have hb3 := hbw2.trans (hb3'.mono hbw2.size)
                go_wp2_with fail
                go_ret
                exact SpRightP.no hno.out hb3
              · have hpj2 : Hid (∀ j' p', j' < j + 1 → r.2[j']? = some p' → RPage rs e k r.2 j' p') := Lib.hid fun j' p' hj' hp' => by
                  by_cases ej : j' = j
                  · subst ej
                    rw [HP.out] at hp'
                    cases hp'
                    exact ⟨by omega, by omega, hrj.out, by rw [HS.out]; exact hin⟩
                  · exact hpj.out j' p' (by omega) hp'
                have hd : decide (p ∈ S) = false := decide_eq_false hin
                clear hpj
                go_wp2_with fail
                refine (has_any _ _ S hms p hp32).mono ?_
                rintro x w3 ⟨rfl, hb3'⟩
                rw [hd]
                have hb3 := hbw2.trans (hb3'.mono hbw2.size)
                have hms3 := hms.below hb3' hms.lt
                have hbx3 := blk_below hbx hb3' (blk_lt hbx)
                have hz3 := hb3.size
                clear hms hbx hb3' x0 x1
                go_wp2_with fail
                refine (add_any _ _ S hms3 hSl p hp32 hin).mono ?_
                rintro x w4 ⟨rfl, hms4, hg4⟩
                have hb4 := hb3.grown hg4 hz3 (fun k hk => by cases hk; exact hmbl)
                have hbx4 := blk_grown hbx3 hg4 (fun e => hmbx (by injection e))
                clear hms3 hbx3 hg4 hd
                go_wp2_with fail
                exact ⟨⟨j + 1, by omega, by go_num, by rw [HS1.out]; exact hms4, hpj2, hbx4, hb4⟩, by simp [intOf]; omega⟩
            · have g1 : decide (0 < j) = false := decide_eq_false hj0
              have g2 : decide ((0 : Int) < (j : Int)) = false := decide_eq_false (by omega)
              have hrj : Hid (∀ q', 0 < j → r.2[j - 1]? = some q' → q' < p) := Lib.hid fun q' hq' => absurd hq' hj0
              have hSl : (rpAll (rs.take k) ++ r.2.take j).length ≤ 1000000000 := Nat.le_trans (rpAll_take_le rs HR.out j) htot
              have hS1 : rpAll (rs.take k) ++ r.2.take (j + 1) = (rpAll (rs.take k) ++ r.2.take j) ++ [p] := by rw [rtake_succ HP.out, List.append_assoc]
              obtain ⟨S, hS⟩ : ∃ S, rpAll (rs.take k) ++ r.2.take j = S := ⟨_, rfl⟩
              rw [hS] at hms hSl hS1
              have HS := Lib.hid hS
              have HS1 := Lib.hid hS1
              clear hS hS1
              by_cases hin : p ∈ S
              · have hno : Hid (¬ SpRight rs e) := Lib.hid fun hh => ((hh k r HR.out).2.2 j p HP.out).2.2.2 (by rw [HS.out]; exact hin)
                have hd : decide (p ∈ S) = true := decide_eq_true hin
                clear hin
                go_wp2_with fail
                refine (has_any _ _ S hms p hp32).mono ?_
                rintro x w3 ⟨rfl, hb3'⟩
                rw [hd]
                have hb3 := hbw2.trans (hb3'.mono hbw2.size)
                go_wp2_with fail
                go_ret
                exact SpRightP.no hno.out hb3
              · have hpj2 : Hid (∀ j' p', j' < j + 1 → r.2[j']? = some p' → RPage rs e k r.2 j' p') := Lib.hid fun j' p' hj' hp' => by
                  by_cases ej : j' = j
                  · subst ej
                    rw [HP.out] at hp'
                    cases hp'
                    exact ⟨by omega, by omega, hrj.out, by rw [HS.out]; exact hin⟩
                  · exact hpj.out j' p' (by omega) hp'
                have hd : decide (p ∈ S) = false := decide_eq_false hin
                clear hpj
                go_wp2_with fail
                refine (has_any _ _ S hms p hp32).mono ?_
                rintro x w3 ⟨rfl, hb3'⟩
                rw [hd]
                have hb3 := hbw2.trans (hb3'.mono hbw2.size)
                have hms3 := hms.below hb3' hms.lt
                have hbx3 := blk_below hbx hb3' (blk_lt hbx)
                have hz3 := hb3.size
                clear hms hbx hb3' x0 x1
                go_wp2_with fail
                refine (add_any _ _ S hms3 hSl p hp32 hin).mono ?_
                rintro x w4 ⟨rfl, hms4, hg4⟩
                have hb4 := hb3.grown hg4 hz3 (fun k hk => by cases hk; exact hmbl)
                have hbx4 := blk_grown hbx3 hg4 (fun e => hmbx (by injection e))
                clear hms3 hbx3 hg4 hd
                go_wp2_with fail
                exact ⟨⟨j + 1, by omega, by go_num, by rw [HS1.out]; exact hms4, hpj2, hbx4, hb4⟩, by simp [intOf]; omega⟩
          · obtain rfl : j = np := by omega
            have hjt : r.2.take j = r.2 := by rw [← HPL.out, List.take_length]
            have hS1 : rpAll (rs.take (k + 1)) = rpAll (rs.take k) ++ r.2.take j := by rw [hjt, rtake_succ HR.out, rpAll_snoc]
            have HS1 := Lib.hid hS1
            have hpre2 : Hid (∀ k' r', k' < k + 1 → rs[k']? = some r' → RRec rs e k' r') := Lib.hid fun k' r' hk' hr' => by
              by_cases ek : k' = k
              · subst ek
                rw [HR.out] at hr'
                cases hr'
                exact ⟨fun h0 => hnp0 (by rw [← HPL.out, h0]; rfl), hrise.out, fun j' p hp => hpj.out j' p (by have := (List.getElem?_eq_some_iff.1 hp).1; rw [HPL.out] at this; exact this) hp⟩
              · exact hpre.out k' r' (by omega) hr'
            clear hjt hS1 hpj hpre
            go_wp2_with fail
            exact ⟨⟨k + 1, by omega, by go_num, by rw [HS1.out]; exact hms, hpre2, hbw2⟩, by simp [intOf]; omega⟩
      · have f1 : decide (0 < k) = true := decide_eq_true (by omega)
        have f2 : decide ((0 : Int) < (k : Int)) = true := decide_eq_true (by omega)
        obtain ⟨k1, hk1⟩ : ∃ k1, k1 + 1 = k := ⟨k - 1, by omega⟩
        have hk1i : (k : Int) - 1 = (k1 : Int) := by omega
        have hk1w : IntKind.i64.wrap ((k : Int) - 1) = (k1 : Int) := by rw [hk1i]; exact IntWalk.i64_in _ (by omega)
        obtain ⟨q, adq, _, _, _, hq, e', hRQ⟩ := h.at_ (i := k1) (by omega)
        cases e'
        have a0 : W1.cell? (ad.add (k1 * 2)) = some (.int .u64 (q.1 : Int)) := (hb1.cell (Nat.lt_of_lt_of_le hRQ.1 hBw)).trans hRQ.2.1
        have hkk : k - 1 = k1 := by omega
        have HK1 := Lib.hid hkk
        have HQ := Lib.hid hq
        have hk1l : k1 < n := by omega
        clear hk1 hkk hq hRQ
        by_cases c0 : r.1 ≤ q.1
        · have hno : Hid (¬ SpRight rs e) := Lib.hid fun hh => by have := (hh k r HR.out).2.1 q (by omega) (by rw [HK1.out]; exact HQ.out); omega
          have e3 : decide (r.1 ≤ q.1) = true := decide_eq_true c0
          go_quiet (fail)
          go_wp2_with fail
          go_ret
          exact SpRightP.no hno.out (below_drewN hb1 _)
        have e3 : decide (r.1 ≤ q.1) = false := decide_eq_false c0
        have hrise : Hid (∀ q', 0 < k → rs[k - 1]? = some q' → q'.1 < r.1) := Lib.hid fun q' _ hq' => by
          rw [HK1.out, HQ.out] at hq'
          cases hq'
          omega
        go_quiet (fail)
        have hms2 : MSet (W1.drewN nq) mb (rpAll (rs.take k)) := hms1
        have hb2 : Below w.heap.size w (W1.drewN nq) := below_drewN hb1 nq
        have hbx2 : (W1.drewN nq).heap[bx]? = some (.cells #[.int .u64 (r.1 : Int), .slice Ap np cp] 101 (0, 0)) := hbx
        generalize W1.drewN nq = W2 at hms2 hb2 hbx2 ⊢
        have y0 := blk_cell hbx2 0
        have y1 := blk_cell hbx2 1
        clear hms1 hb1 x0 x1 hbx a0
        go_wp2_with fail
        clear y0 y1
        obtain ⟨wo, hwo⟩ : ∃ wo : World, wo = wr := ⟨_, rfl⟩
        subst hwo
        go_loopw [40] (fun i wr => ∃ j : Nat, j ≤ np ∧ i = .int .i64 (j : Int) ∧ MSet wr mb (rpAll (rs.take k) ++ r.2.take j) ∧ Hid (∀ j' p, j' < j → r.2[j']? = some p → RPage rs e k r.2 j' p) ∧ wr.heap[bx]? = some (.cells #[.int .u64 (r.1 : Int), .slice Ap np cp] 101 (0, 0)) ∧ Below w.heap.size w wr) (fun i _ => np - (intOf i).toNat)
        case atStart => exact ⟨0, Nat.zero_le _, rfl, by simpa using hms2, Lib.hid (fun _ _ h => absurd h (by omega)), hbx2, hb2⟩
        case round =>
          obtain ⟨j, hj, rfl, hms, hpj, hbx, hbw2⟩ := hrel
          clear hms2 hbx2 hb2
          have x0 := blk_cell hbx 0
          have x1 := blk_cell hbx 1
          by_cases hjl : j < np
          · obtain ⟨p, adp, hp, rfl, hcp, hpB⟩ := HPG.out wr hbw2 j hjl
            have HP := Lib.hid hp
            have hp32 : p < 4294967296 := hr2 p (List.mem_of_getElem? hp)
            clear hp
            by_cases c1 : p < 2
            · have hno : Hid (¬ SpRight rs e) := Lib.hid fun hh => by have := ((hh k r HR.out).2.2 j p HP.out).1; omega
              have e3 : decide (p < 2) = true := decide_eq_true c1
              have e3' : decide ((p : Int) < 2) = true := decide_eq_true (by omega)
              go_wp2_with fail
              go_ret
              exact SpRightP.no hno.out hbw2
            have e3 : decide (p < 2) = false := decide_eq_false c1
            have e3' : decide ((p : Int) < 2) = false := decide_eq_false (by omega)
            by_cases c2 : e ≤ p
            · have hno : Hid (¬ SpRight rs e) := Lib.hid fun hh => by have := ((hh k r HR.out).2.2 j p HP.out).2.1; omega
              have e4 : decide (e ≤ p) = true := decide_eq_true c2
              go_wp2_with fail
              go_ret
              exact SpRightP.no hno.out hbw2
            have e4 : decide (e ≤ p) = false := decide_eq_false c2
            by_cases hj0 : 0 < j
            · have g1 : decide (0 < j) = true := decide_eq_true hj0
              have g2 : decide ((0 : Int) < (j : Int)) = true := decide_eq_true (by omega)
              obtain ⟨j1, hj1⟩ : ∃ j1, j1 + 1 = j := ⟨j - 1, by omega⟩
              have hj1i : (j : Int) - 1 = (j1 : Int) := by omega
              have hj1l : j1 < np := by omega
              obtain ⟨q, adq, hq, e', hcq, _⟩ := HPG.out wr hbw2 j1 hj1l
              cases e'
              have hjj : j - 1 = j1 := by omega
              have HJ1 := Lib.hid hjj
              have HQ := Lib.hid hq
              clear hj1 hjj hq
              by_cases c3 : p ≤ q
              · have hno : Hid (¬ SpRight rs e) := Lib.hid fun hh => by have := ((hh k r HR.out).2.2 j p HP.out).2.2.1 q hj0 (by rw [HJ1.out]; exact HQ.out); omega
                have e5 : decide (p ≤ q) = true := decide_eq_true c3
                go_wp2_with fail
                go_ret
                exact SpRightP.no hno.out hbw2
              have e5 : decide (p ≤ q) = false := decide_eq_false c3
              have hrj : Hid (∀ q', 0 < j → r.2[j - 1]? = some q' → q' < p) := Lib.hid fun q' _ hq' => by
                rw [HJ1.out, HQ.out] at hq'
                cases hq'
                omega
              have hSl : (rpAll (rs.take k) ++ r.2.take j).length ≤ 1000000000 := Nat.le_trans (rpAll_take_le rs HR.out j) htot
              have hS1 : rpAll (rs.take k) ++ r.2.take (j + 1) = (rpAll (rs.take k) ++ r.2.take j) ++ [p] := by rw [rtake_succ HP.out, List.append_assoc]
              obtain ⟨S, hS⟩ : ∃ S, rpAll (rs.take k) ++ r.2.take j = S := ⟨_, rfl⟩
              rw [hS] at hms hSl hS1
              have HS := Lib.hid hS
              have HS1 := Lib.hid hS1
              clear hS hS1
              by_cases hin : p ∈ S
              · have hno : Hid (¬ SpRight rs e) := Lib.hid fun hh => ((hh k r HR.out).2.2 j p HP.out).2.2.2 (by rw [HS.out]; exact hin)
                have hd : decide (p ∈ S) = true := decide_eq_true hin
                clear hin
                go_wp2_with fail
                refine (has_any _ _ S hms p hp32).mono ?_
                rintro x w3 ⟨rfl, hb3'⟩
                rw [hd]
                have hb3 := hbw2.trans (hb3'.mono hbw2.size)
                go_wp2_with fail
                go_ret
                exact SpRightP.no hno.out hb3
              · have hpj2 : Hid (∀ j' p', j' < j + 1 → r.2[j']? = some p' → RPage rs e k r.2 j' p') := Lib.hid fun j' p' hj' hp' => by
                  by_cases ej : j' = j
                  · subst ej
                    rw [HP.out] at hp'
                    cases hp'
                    exact ⟨by omega, by omega, hrj.out, by rw [HS.out]; exact hin⟩
                  · exact hpj.out j' p' (by omega) hp'
                have hd : decide (p ∈ S) = false := decide_eq_false hin
                clear hpj
                go_wp2_with fail
                refine (has_any _ _ S hms p hp32).mono ?_
                rintro x w3 ⟨rfl, hb3'⟩
                rw [hd]
                have hb3 := hbw2.trans (hb3'.mono hbw2.size)
                have hms3 := hms.below hb3' hms.lt
                have hbx3 := blk_below hbx hb3' (blk_lt hbx)
                have hz3 := hb3.size
                clear hms hbx hb3' x0 x1
                go_wp2_with fail
                refine (add_any _ _ S hms3 hSl p hp32 hin).mono ?_
                rintro x w4 ⟨rfl, hms4, hg4⟩
                have hb4 := hb3.grown hg4 hz3 (fun k hk => by cases hk; exact hmbl)
                have hbx4 := blk_grown hbx3 hg4 (fun e => hmbx (by injection e))
                clear hms3 hbx3 hg4 hd
                go_wp2_with fail
                exact ⟨⟨j + 1, by omega, by go_num, by rw [HS1.out]; exact hms4, hpj2, hbx4, hb4⟩, by simp [intOf]; omega⟩
            · have g1 : decide (0 < j) = false := decide_eq_false hj0
              have g2 : decide ((0 : Int) < (j : Int)) = false := decide_eq_false (by omega)
              have hrj : Hid (∀ q', 0 < j → r.2[j - 1]? = some q' → q' < p) := Lib.hid fun q' hq' => absurd hq' hj0
              have hSl : (rpAll (rs.take k) ++ r.2.take j).length ≤ 1000000000 := Nat.le_trans (rpAll_take_le rs HR.out j) htot
              have hS1 : rpAll (rs.take k) ++ r.2.take (j + 1) = (rpAll (rs.take k) ++ r.2.take j) ++ [p] := by rw [rtake_succ HP.out, List.append_assoc]
              obtain ⟨S, hS⟩ : ∃ S, rpAll (rs.take k) ++ r.2.take j = S := ⟨_, rfl⟩
              rw [hS] at hms hSl hS1
              have HS := Lib.hid hS
              have HS1 := Lib.hid hS1
              clear hS hS1
              by_cases hin : p ∈ S
              · have hno : Hid (¬ SpRight rs e) := Lib.hid fun hh => ((hh k r HR.out).2.2 j p HP.out).2.2.2 (by rw [HS.out]; exact hin)
                have hd : decide (p ∈ S) = true := decide_eq_true hin
                clear hin
                go_wp2_with fail
                refine (has_any _ _ S hms p hp32).mono ?_
                rintro x w3 ⟨rfl, hb3'⟩
                rw [hd]
                have hb3 := hbw2.trans (hb3'.mono hbw2.size)
                go_wp2_with fail
                go_ret
                exact SpRightP.no hno.out hb3
              · have hpj2 : Hid (∀ j' p', j' < j + 1 → r.2[j']? = some p' → RPage rs e k r.2 j' p') := Lib.hid fun j' p' hj' hp' => by
                  by_cases ej : j' = j
                  · subst ej
                    rw [HP.out] at hp'
                    cases hp'
                    exact ⟨by omega, by omega, hrj.out, by rw [HS.out]; exact hin⟩
                  · exact hpj.out j' p' (by omega) hp'
                have hd : decide (p ∈ S) = false := decide_eq_false hin
                clear hpj
                go_wp2_with fail
                refine (has_any _ _ S hms p hp32).mono ?_
                rintro x w3 ⟨rfl, hb3'⟩
                rw [hd]
                have hb3 := hbw2.trans (hb3'.mono hbw2.size)
                have hms3 := hms.below hb3' hms.lt
                have hbx3 := blk_below hbx hb3' (blk_lt hbx)
                have hz3 := hb3.size
                clear hms hbx hb3' x0 x1
                go_wp2_with fail
                refine (add_any _ _ S hms3 hSl p hp32 hin).mono ?_
                rintro x w4 ⟨rfl, hms4, hg4⟩
                have hb4 := hb3.grown hg4 hz3 (fun k hk => by cases hk; exact hmbl)
                have hbx4 := blk_grown hbx3 hg4 (fun e => hmbx (by injection e))
                clear hms3 hbx3 hg4 hd
                go_wp2_with fail
                exact ⟨⟨j + 1, by omega, by go_num, by rw [HS1.out]; exact hms4, hpj2, hbx4, hb4⟩, by simp [intOf]; omega⟩
          · obtain rfl : j = np := by omega
            have hjt : r.2.take j = r.2 := by rw [← HPL.out, List.take_length]
            have hS1 : rpAll (rs.take (k + 1)) = rpAll (rs.take k) ++ r.2.take j := by rw [hjt, rtake_succ HR.out, rpAll_snoc]
            have HS1 := Lib.hid hS1
            have hpre2 : Hid (∀ k' r', k' < k + 1 → rs[k']? = some r' → RRec rs e k' r') := Lib.hid fun k' r' hk' hr' => by
              by_cases ek : k' = k
              · subst ek
                rw [HR.out] at hr'
                cases hr'
                exact ⟨fun h0 => hnp0 (by rw [← HPL.out, h0]; rfl), hrise.out, fun j' p hp => hpj.out j' p (by have := (List.getElem?_eq_some_iff.1 hp).1; rw [HPL.out] at this; exact this) hp⟩
              · exact hpre.out k' r' (by omega) hr'
            clear hjt hS1 hpj hpre
            go_wp2_with fail
            exact ⟨⟨k + 1, by omega, by go_num, by rw [HS1.out]; exact hms, hpre2, hbw2⟩, by simp [intOf]; omega⟩
    · obtain rfl : k = n := by omega
      have hall : Hid (SpRight rs e) := Lib.hid (fun k' r hr => hpre.out k' r (by rw [← hlen]; exact (List.getElem?_eq_some_iff.1 hr).1) hr)
      clear hpre
      go_wp2_with fail
      go_ret
      exact ⟨true, rfl, iff_of_true rfl hall.out, hbw⟩

end Go.Proofs.Ythijobbhpbklmaa
