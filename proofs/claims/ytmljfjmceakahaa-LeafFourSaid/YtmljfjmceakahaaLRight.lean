/- leaf.Right. -/
import Derived.Test.YtmljfjmceakahaaLFill
import Derived.Test.YtmljfjmceakahaaRegion
namespace Go.Proofs.Ytmljfjmceakahaa
open Go.RowKit
set_option linter.unusedVariables false
set_option linter.unusedSimpArgs false

/-- Entry i may stand where it stands. -/
def LOkAt (es : List LE) (S : Int) (i : Nat) : Prop := ∀ e, es[i]? = some e → LOk e S ∧ (0 < i → ∀ e', es[i - 1]? = some e' → Lib.compareBytes e'.key e.key < 0)
/-- Entries may be those of a page. -/
def LRight (es : List LE) (S : Int) : Prop := 512 ≤ S ∧ S ≤ 4096 ∧ ∀ i, i < es.length → LOkAt es S i
def LRP (es : List LE) (S : Int) (w : World) (e : Ending) (w' : World) : Prop := ∃ b, e = .returned (.bool b) ∧ (b = true ↔ LRight es S) ∧ Below w.heap.size w w'
theorem LRP.no {es : List LE} {S : Int} {w w' : World} (h : ¬ LRight es S) (hb : Below w.heap.size w w') : LRP es S w (.returned (.bool false)) w' := ⟨false, rfl, by simpa using h, hb⟩
theorem LRP.yes {es : List LE} {S : Int} {w w' : World} (h : LRight es S) (hb : Below w.heap.size w w') : LRP es S w (.returned (.bool true)) w' := ⟨true, rfl, by simpa using h, hb⟩
/-- A world that has grown from another. -/
def RB (w0 w : World) : Prop := Below w0.heap.size w0 w
theorem RB.step {w0 w w' : World} (hb : Below w.heap.size w w') (h : RB w0 w) : RB w0 w' := Below.trans h (hb.mono (Below.size h))

set_option maxRecDepth 100000 in
set_option maxHeartbeats 1000000 in
theorem lright_any (w : World) (B : Nat) (A : Option Addr) (n c : Nat) (es : List LE) (h : LEnts w B A n es) (hBw : B ≤ w.heap.size) (hn : n ≤ 1000000) (hv : ∀ e ∈ es, e.val.length ≤ 1000000) (hkl : ∀ e ∈ es, e.key.length ≤ 9223372036854775807) (S : Int) :
    Calls Try.prog 31 #[.slice A n c, .int .i64 S] w (LRP es S w) := by
  by_cases c1 : S < 512
  · go_enter Try.func31, Try.ntmps31
    go_wp2_with fail
    go_ret
    exact LRP.no (fun hh => by have := hh.1; omega) (Below.refl _ _)
  by_cases c2 : 4096 < S
  · go_enter Try.func31, Try.ntmps31
    go_wp2_with fail
    go_ret
    exact LRP.no (fun hh => by have := hh.2.1; omega) (Below.refl _ _)
  go_enter Try.func31, Try.ntmps31
  go_wp2_with fail
  go_loopw [15] (fun i wr => ∃ k : Nat, k ≤ n ∧ i = .int .i64 (k : Int) ∧ (∀ j, j < k → LOkAt es S j) ∧ Below w.heap.size w wr) (fun i _ => n - (intOf i).toNat)
  case atStart => exact ⟨0, Nat.zero_le _, rfl, fun j hj => by omega, Below.refl _ _⟩
  case round =>
    obtain ⟨k, hkn, rfl, hall, hbw⟩ := hrel
    by_cases hlt : k < n
    · obtain ⟨e, ad, Ak, nk, ck, Av, nv, cv, he, ho, rfl, hl⟩ := (h.below (hbw.mono hBw)).at_ hlt
      have hbs := hbw.size
      obtain ⟨a0, a1, a2, a3⟩ := hl.cells
      have hks := hl.2.2.2.2.2.1.len
      have hvs := hl.2.2.2.2.2.2.len
      have hv1 := hv _ (List.mem_of_getElem? he)
      have hk1 := hkl _ (List.mem_of_getElem? he)
      have hok0 := fun W => lok_any W e Ak nk ck Av nv cv hks hvs (by omega) (by omega) ho S (by omega) (by omega)
      have hba := hbw.alloc hbs (lObj e Ak nk ck Av nv cv)
      have hq0 := heap_alloc_new wr (lObj e Ak nk ck Av nv cv)
      have hlW := hl.below ((Below.refl B wr).alloc (Nat.le_trans hBw hbs) (lObj e Ak nk ck Av nv cv))
      have hqs : wr.heap.size < (wr.alloc (lObj e Ak nk ck Av nv cv)).heap.size := by simp
      have hBq : B ≤ wr.heap.size := Nat.le_trans hBw hbs
      have HE := Lib.hid he
      have HALL := Lib.hid hall
      clear hks hvs hl he hall
      go_wp2_with fail
      obtain ⟨q, hq⟩ : ∃ q, wr.heap.size = q := ⟨_, rfl⟩
      rw [hq] at hq0 hqs hBq ⊢
      generalize wr.alloc (lObj e Ak nk ck Av nv cv) = W at hba hq0 hlW hqs ⊢
      clear a0 a1 a2 a3 hq
      have hX0 : RB W W.drew := (Below.refl _ _).drew
      have hW0 : Below w.heap.size w W := hba
      have hbox : ∀ w', RB W w' → w'.cell? ⟨q, 0, none⟩ = some (.slice Ak nk ck) ∧ w'.cell? ⟨q, 1, none⟩ = some (.slice Av nv cv) ∧ w'.cell? ⟨q, 2, none⟩ = some (.int .i64 e.long) ∧ w'.cell? ⟨q, 3, none⟩ = some (.int .u32 (e.first : Int)) := fun w' hw => cell4 (blk_below hq0 hw hqs)
      by_cases d1 : LOk e S
      · have hok : ∀ W, Calls Try.prog 57 #[lVal e Ak nk ck Av nv cv, .int .i64 S] W fun r w' => r = .returned (.bool true) ∧ Below W.heap.size W w' := fun W => (hok0 W).mono fun r w' ⟨b, hr, hb, hl⟩ => ⟨by rw [hr, hb.2 d1], hl⟩
        by_cases d2 : 0 < k
        · obtain ⟨kp, rfl⟩ : ∃ kp, k = kp + 1 := ⟨k - 1, by omega⟩
          obtain ⟨eq, ad', Aq, nq, cq, Avq, nvq, cvq, heq, hoq, had, hlq⟩ := (h.below (hW0.mono hBw)).at_ (show kp < n by omega)
          cases had
          have hS : ∀ w', RB W w' → (w'.cell? ⟨q, 0, none⟩ = some (.slice Ak nk ck) ∧ w'.cell? ⟨q, 1, none⟩ = some (.slice Av nv cv) ∧ w'.cell? ⟨q, 2, none⟩ = some (.int .i64 e.long) ∧ w'.cell? ⟨q, 3, none⟩ = some (.int .u32 (e.first : Int))) ∧ w'.cell? (ad.add (kp * 4)) = some (.slice Aq nq cq) := fun w' hw => ⟨hbox w' hw, (Below.cell hw (p := ad.add (kp * 4)) (by have := hlq.1; omega)).trans hlq.2.1⟩
          have HS := Lib.hid hS
          have hwk : IntKind.i64.wrap (kp : Int) = (kp : Int) := IntWalk.i64_in _ (by omega)
          have hkp0 : (0 : Int) ≤ (kp : Int) := by omega
          have hkp1 : (kp : Int) < (n : Int) := by omega
          have hkpp : (0 : Int) < (kp : Int) + 1 := by omega
          obtain ⟨rr, hrr⟩ : ∃ rr, Lib.compareBytes eq.key e.key = rr := ⟨_, rfl⟩
          have hcmp : ∀ w', RB W w' → Calls Try.prog 47 #[.slice Aq nq cq, .slice Ak nk ck] w' fun r w'' => r = .returned (.int .i64 rr) ∧ w' = w'' := fun w' hw => by
            have := bcmp_any w' B B _ _ _ _ _ _ _ _ (hlq.2.2.2.2.2.1.below (Below.mono hw (by omega))) (hlW.2.2.2.2.2.1.below (Below.mono hw (by omega)))
            rw [hrr] at this
            exact this.mono fun r w'' ⟨h1, h2⟩ => ⟨h1, h2.symm⟩
          by_cases d3 : 0 ≤ rr
          · have d3d : decide (0 ≤ rr) = true := decide_eq_true d3
            have hno : ¬ LRight es S := fun hh => by
              have := (hh.2.2 (kp + 1) (by rw [h.1]; exact hlt) _ HE.out).2 (by omega) _ heq
              omega
            clear hrr hS hlq heq hbox
            refine wp_region_held_drew (S := (fun w' => (w'.cell? ⟨q, 0, none⟩ = some (.slice Ak nk ck) ∧ w'.cell? ⟨q, 1, none⟩ = some (.slice Av nv cv) ∧ w'.cell? ⟨q, 2, none⟩ = some (.int .i64 e.long) ∧ w'.cell? ⟨q, 3, none⟩ = some (.int .u32 (e.first : Int))) ∧ w'.cell? (ad.add (kp * 4)) = some (.slice Aq nq cq))) (by kernel_rfl) ?_ (fun hHeld => ?_)
            · exact HS.out _ (by assumption)
            refine takeP (i := 0) rfl (by kernel_rfl) (by kernel_rfl) (by kernel_rfl) (fun _ _ _ h => h) (by rfl) (by assumption) (v := ?_) ?_ ?_
            rotate_left
            · intro w' hSw
              try dsimp only at hSw
              go_simp
              try with_reducible rfl
            try simp only [Act.put, List.setIfInBounds_toArray, List.set_cons_zero, List.set_cons_succ]
            refine takeP (i := 1) rfl (by kernel_rfl) (by kernel_rfl) (by kernel_rfl) (fun _ _ _ h => h) (by rfl) (by assumption) (v := ?_) ?_ ?_
            rotate_left
            · intro w' hSw
              try dsimp only at hSw
              go_simp
              try with_reducible rfl
            try simp only [Act.put, List.setIfInBounds_toArray, List.set_cons_zero, List.set_cons_succ]
            refine carryP (i := 2) rfl (by kernel_rfl) (by rfl) (fun K hK => ?_)
            go_simp
            refine (hok _).mono ?_
            rintro r w5 ⟨rfl, hb5⟩
            have hX5 : RB W w5 := RB.step hb5 hX0
            refine hK.out _ _ ?_ (fun hHeld => ?_)
            · exact HS.out _ (by assumption)
            clear hK K
            try simp only [Act.put, List.setIfInBounds_toArray, List.set_cons_zero, List.set_cons_succ]
            refine takeP (i := 3) rfl (by kernel_rfl) (by kernel_rfl) (by kernel_rfl) (fun _ _ _ h => h) (by rfl) (by assumption) (v := ?_) ?_ ?_
            rotate_left
            · intro w' hSw
              try dsimp only at hSw
              go_simp
              try with_reducible rfl
            try simp only [Act.put, List.setIfInBounds_toArray, List.set_cons_zero, List.set_cons_succ]
            refine takeP (i := 4) rfl (by kernel_rfl) (by kernel_rfl) (by kernel_rfl) (fun _ _ _ h => h) (by rfl) (by assumption) (v := ?_) ?_ ?_
            rotate_left
            · intro w' hSw
              try dsimp only at hSw
              go_simp
              try with_reducible rfl
            try simp only [Act.put, List.setIfInBounds_toArray, List.set_cons_zero, List.set_cons_succ]
            refine takeP (i := 5) rfl (by kernel_rfl) (by kernel_rfl) (by kernel_rfl) (fun _ _ _ h => h) (by rfl) (by assumption) (v := ?_) ?_ ?_
            rotate_left
            · intro w' hSw
              try dsimp only at hSw
              go_simp
              try with_reducible rfl
            try simp only [Act.put, List.setIfInBounds_toArray, List.set_cons_zero, List.set_cons_succ]
            refine takeP (i := 6) rfl (by kernel_rfl) (by kernel_rfl) (by kernel_rfl) (fun _ _ _ h => h) (by rfl) (by assumption) (v := ?_) ?_ ?_
            rotate_left
            · intro w' hSw
              try dsimp only at hSw
              go_simp
              try with_reducible rfl
            try simp only [Act.put, List.setIfInBounds_toArray, List.set_cons_zero, List.set_cons_succ]
            refine takeP (i := 7) rfl (by kernel_rfl) (by kernel_rfl) (by kernel_rfl) (fun _ _ _ h => h) (by rfl) (by assumption) (v := ?_) ?_ ?_
            rotate_left
            · intro w' hSw
              try dsimp only at hSw
              go_simp
              try with_reducible rfl
            try simp only [Act.put, List.setIfInBounds_toArray, List.set_cons_zero, List.set_cons_succ]
            refine takeP (i := 8) rfl (by kernel_rfl) (by kernel_rfl) (by kernel_rfl) (fun _ _ _ h => h) (by rfl) (by assumption) (v := ?_) ?_ ?_
            rotate_left
            · intro w' hSw
              try dsimp only at hSw
              go_simp
              try with_reducible rfl
            try simp only [Act.put, List.setIfInBounds_toArray, List.set_cons_zero, List.set_cons_succ]
            refine takeP (i := 9) rfl (by kernel_rfl) (by kernel_rfl) (by kernel_rfl) (fun _ _ _ h => h) (by rfl) (by assumption) (v := ?_) ?_ ?_
            rotate_left
            · intro w' hSw
              try dsimp only at hSw
              go_simp
              try with_reducible rfl
            try simp only [Act.put, List.setIfInBounds_toArray, List.set_cons_zero, List.set_cons_succ]
            refine takeP (i := 10) rfl (by kernel_rfl) (by kernel_rfl) (by kernel_rfl) (fun _ _ _ h => h) (by rfl) (by assumption) (v := ?_) ?_ ?_
            rotate_left
            · intro w' hSw
              try dsimp only at hSw
              go_simp
              try with_reducible rfl
            try simp only [Act.put, List.setIfInBounds_toArray, List.set_cons_zero, List.set_cons_succ]
            refine takeP (i := 11) rfl (by kernel_rfl) (by kernel_rfl) (by kernel_rfl) (fun _ _ _ h => h) (by rfl) (by assumption) (v := ?_) ?_ ?_
            rotate_left
            · intro w' hSw
              try dsimp only at hSw
              go_simp
              try with_reducible rfl
            try simp only [Act.put, List.setIfInBounds_toArray, List.set_cons_zero, List.set_cons_succ]
            refine takeP (i := 12) rfl (by kernel_rfl) (by kernel_rfl) (by kernel_rfl) (fun _ _ _ h => h) (by rfl) (by assumption) (v := ?_) ?_ ?_
            rotate_left
            · intro w' hSw
              try dsimp only at hSw
              go_simp
              try with_reducible rfl
            try simp only [Act.put, List.setIfInBounds_toArray, List.set_cons_zero, List.set_cons_succ]
            refine takeP (i := 13) rfl (by kernel_rfl) (by kernel_rfl) (by kernel_rfl) (fun _ _ _ h => h) (by rfl) (by assumption) (v := ?_) ?_ ?_
            rotate_left
            · intro w' hSw
              try dsimp only at hSw
              go_simp
              try with_reducible rfl
            try simp only [Act.put, List.setIfInBounds_toArray, List.set_cons_zero, List.set_cons_succ]
            refine takeP (i := 14) rfl (by kernel_rfl) (by kernel_rfl) (by kernel_rfl) (fun _ _ _ h => h) (by rfl) (by assumption) (v := ?_) ?_ ?_
            rotate_left
            · intro w' hSw
              try dsimp only at hSw
              go_simp
              try with_reducible rfl
            try simp only [Act.put, List.setIfInBounds_toArray, List.set_cons_zero, List.set_cons_succ]
            refine takeP (i := 15) rfl (by kernel_rfl) (by kernel_rfl) (by kernel_rfl) (fun _ _ _ h => h) (by rfl) (by assumption) (v := ?_) ?_ ?_
            rotate_left
            · intro w' hSw
              try dsimp only at hSw
              go_simp
              try with_reducible rfl
            try simp only [Act.put, List.setIfInBounds_toArray, List.set_cons_zero, List.set_cons_succ]
            refine carryP (i := 16) rfl (by kernel_rfl) (by rfl) (fun K hK => ?_)
            go_simp
            refine (hcmp _ hX5).mono ?_
            rintro r w6 ⟨rfl, rfl⟩
            refine hK.out _ _ ?_ (fun hHeld => ?_)
            · exact HS.out _ (by assumption)
            clear hK K
            try simp only [Act.put, List.setIfInBounds_toArray, List.set_cons_zero, List.set_cons_succ]
            refine takeP (i := 17) rfl (by kernel_rfl) (by kernel_rfl) (by kernel_rfl) (fun _ _ _ h => h) (by rfl) (by assumption) (v := ?_) ?_ ?_
            rotate_left
            · intro w' hSw
              try dsimp only at hSw
              go_simp
              try with_reducible rfl
            try simp only [Act.put, List.setIfInBounds_toArray, List.set_cons_zero, List.set_cons_succ]
            refine takeP (i := 18) rfl (by kernel_rfl) (by kernel_rfl) (by kernel_rfl) (fun _ _ _ h => h) (by rfl) (by assumption) (v := ?_) ?_ ?_
            rotate_left
            · intro w' hSw
              try dsimp only at hSw
              go_simp
              try with_reducible rfl
            try simp only [Act.put, List.setIfInBounds_toArray, List.set_cons_zero, List.set_cons_succ]
            refine takeP (i := 19) rfl (by kernel_rfl) (by kernel_rfl) (by kernel_rfl) (fun _ _ _ h => h) (by rfl) (by assumption) (v := ?_) ?_ ?_
            rotate_left
            · intro w' hSw
              try dsimp only at hSw
              go_simp
              try with_reducible rfl
            try simp only [Act.put, List.setIfInBounds_toArray, List.set_cons_zero, List.set_cons_succ]
            refine wpAnyH_done (by kernel_rfl) ?_ _
            go_wp2_with fail
            go_ret
            exact LRP.no hno (hW0.trans (Below.mono hX5 (by have := hW0.size; omega)))
          · have d3d : decide (0 ≤ rr) = false := decide_eq_false d3
            have hnew : ∀ j, j < kp + 1 + 1 → LOkAt es S j := by
              intro j hj e' he'
              by_cases e1 : j < kp + 1
              · exact HALL.out j e1 e' he'
              · obtain rfl : j = kp + 1 := by omega
                rw [HE.out] at he'
                cases he'
                refine ⟨d1, fun _ e'' he'' => ?_⟩
                rw [Nat.add_sub_cancel, heq] at he''
                cases he''
                omega
            have HNEW := Lib.hid hnew
            clear hrr hS hlq heq hbox hnew
            refine wp_region_held_drew (S := (fun w' => (w'.cell? ⟨q, 0, none⟩ = some (.slice Ak nk ck) ∧ w'.cell? ⟨q, 1, none⟩ = some (.slice Av nv cv) ∧ w'.cell? ⟨q, 2, none⟩ = some (.int .i64 e.long) ∧ w'.cell? ⟨q, 3, none⟩ = some (.int .u32 (e.first : Int))) ∧ w'.cell? (ad.add (kp * 4)) = some (.slice Aq nq cq))) (by kernel_rfl) ?_ (fun hHeld => ?_)
            · exact HS.out _ (by assumption)
            refine takeP (i := 0) rfl (by kernel_rfl) (by kernel_rfl) (by kernel_rfl) (fun _ _ _ h => h) (by rfl) (by assumption) (v := ?_) ?_ ?_
            rotate_left
            · intro w' hSw
              try dsimp only at hSw
              go_simp
              try with_reducible rfl
            try simp only [Act.put, List.setIfInBounds_toArray, List.set_cons_zero, List.set_cons_succ]
            refine takeP (i := 1) rfl (by kernel_rfl) (by kernel_rfl) (by kernel_rfl) (fun _ _ _ h => h) (by rfl) (by assumption) (v := ?_) ?_ ?_
            rotate_left
            · intro w' hSw
              try dsimp only at hSw
              go_simp
              try with_reducible rfl
            try simp only [Act.put, List.setIfInBounds_toArray, List.set_cons_zero, List.set_cons_succ]
            refine carryP (i := 2) rfl (by kernel_rfl) (by rfl) (fun K hK => ?_)
            go_simp
            refine (hok _).mono ?_
            rintro r w5 ⟨rfl, hb5⟩
            have hX5 : RB W w5 := RB.step hb5 hX0
            refine hK.out _ _ ?_ (fun hHeld => ?_)
            · exact HS.out _ (by assumption)
            clear hK K
            try simp only [Act.put, List.setIfInBounds_toArray, List.set_cons_zero, List.set_cons_succ]
            refine takeP (i := 3) rfl (by kernel_rfl) (by kernel_rfl) (by kernel_rfl) (fun _ _ _ h => h) (by rfl) (by assumption) (v := ?_) ?_ ?_
            rotate_left
            · intro w' hSw
              try dsimp only at hSw
              go_simp
              try with_reducible rfl
            try simp only [Act.put, List.setIfInBounds_toArray, List.set_cons_zero, List.set_cons_succ]
            refine takeP (i := 4) rfl (by kernel_rfl) (by kernel_rfl) (by kernel_rfl) (fun _ _ _ h => h) (by rfl) (by assumption) (v := ?_) ?_ ?_
            rotate_left
            · intro w' hSw
              try dsimp only at hSw
              go_simp
              try with_reducible rfl
            try simp only [Act.put, List.setIfInBounds_toArray, List.set_cons_zero, List.set_cons_succ]
            refine takeP (i := 5) rfl (by kernel_rfl) (by kernel_rfl) (by kernel_rfl) (fun _ _ _ h => h) (by rfl) (by assumption) (v := ?_) ?_ ?_
            rotate_left
            · intro w' hSw
              try dsimp only at hSw
              go_simp
              try with_reducible rfl
            try simp only [Act.put, List.setIfInBounds_toArray, List.set_cons_zero, List.set_cons_succ]
            refine takeP (i := 6) rfl (by kernel_rfl) (by kernel_rfl) (by kernel_rfl) (fun _ _ _ h => h) (by rfl) (by assumption) (v := ?_) ?_ ?_
            rotate_left
            · intro w' hSw
              try dsimp only at hSw
              go_simp
              try with_reducible rfl
            try simp only [Act.put, List.setIfInBounds_toArray, List.set_cons_zero, List.set_cons_succ]
            refine takeP (i := 7) rfl (by kernel_rfl) (by kernel_rfl) (by kernel_rfl) (fun _ _ _ h => h) (by rfl) (by assumption) (v := ?_) ?_ ?_
            rotate_left
            · intro w' hSw
              try dsimp only at hSw
              go_simp
              try with_reducible rfl
            try simp only [Act.put, List.setIfInBounds_toArray, List.set_cons_zero, List.set_cons_succ]
            refine takeP (i := 8) rfl (by kernel_rfl) (by kernel_rfl) (by kernel_rfl) (fun _ _ _ h => h) (by rfl) (by assumption) (v := ?_) ?_ ?_
            rotate_left
            · intro w' hSw
              try dsimp only at hSw
              go_simp
              try with_reducible rfl
            try simp only [Act.put, List.setIfInBounds_toArray, List.set_cons_zero, List.set_cons_succ]
            refine takeP (i := 9) rfl (by kernel_rfl) (by kernel_rfl) (by kernel_rfl) (fun _ _ _ h => h) (by rfl) (by assumption) (v := ?_) ?_ ?_
            rotate_left
            · intro w' hSw
              try dsimp only at hSw
              go_simp
              try with_reducible rfl
            try simp only [Act.put, List.setIfInBounds_toArray, List.set_cons_zero, List.set_cons_succ]
            refine takeP (i := 10) rfl (by kernel_rfl) (by kernel_rfl) (by kernel_rfl) (fun _ _ _ h => h) (by rfl) (by assumption) (v := ?_) ?_ ?_
            rotate_left
            · intro w' hSw
              try dsimp only at hSw
              go_simp
              try with_reducible rfl
            try simp only [Act.put, List.setIfInBounds_toArray, List.set_cons_zero, List.set_cons_succ]
            refine takeP (i := 11) rfl (by kernel_rfl) (by kernel_rfl) (by kernel_rfl) (fun _ _ _ h => h) (by rfl) (by assumption) (v := ?_) ?_ ?_
            rotate_left
            · intro w' hSw
              try dsimp only at hSw
              go_simp
              try with_reducible rfl
            try simp only [Act.put, List.setIfInBounds_toArray, List.set_cons_zero, List.set_cons_succ]
            refine takeP (i := 12) rfl (by kernel_rfl) (by kernel_rfl) (by kernel_rfl) (fun _ _ _ h => h) (by rfl) (by assumption) (v := ?_) ?_ ?_
            rotate_left
            · intro w' hSw
              try dsimp only at hSw
              go_simp
              try with_reducible rfl
            try simp only [Act.put, List.setIfInBounds_toArray, List.set_cons_zero, List.set_cons_succ]
            refine takeP (i := 13) rfl (by kernel_rfl) (by kernel_rfl) (by kernel_rfl) (fun _ _ _ h => h) (by rfl) (by assumption) (v := ?_) ?_ ?_
            rotate_left
            · intro w' hSw
              try dsimp only at hSw
              go_simp
              try with_reducible rfl
            try simp only [Act.put, List.setIfInBounds_toArray, List.set_cons_zero, List.set_cons_succ]
            refine takeP (i := 14) rfl (by kernel_rfl) (by kernel_rfl) (by kernel_rfl) (fun _ _ _ h => h) (by rfl) (by assumption) (v := ?_) ?_ ?_
            rotate_left
            · intro w' hSw
              try dsimp only at hSw
              go_simp
              try with_reducible rfl
            try simp only [Act.put, List.setIfInBounds_toArray, List.set_cons_zero, List.set_cons_succ]
            refine takeP (i := 15) rfl (by kernel_rfl) (by kernel_rfl) (by kernel_rfl) (fun _ _ _ h => h) (by rfl) (by assumption) (v := ?_) ?_ ?_
            rotate_left
            · intro w' hSw
              try dsimp only at hSw
              go_simp
              try with_reducible rfl
            try simp only [Act.put, List.setIfInBounds_toArray, List.set_cons_zero, List.set_cons_succ]
            refine carryP (i := 16) rfl (by kernel_rfl) (by rfl) (fun K hK => ?_)
            go_simp
            refine (hcmp _ hX5).mono ?_
            rintro r w6 ⟨rfl, rfl⟩
            refine hK.out _ _ ?_ (fun hHeld => ?_)
            · exact HS.out _ (by assumption)
            clear hK K
            try simp only [Act.put, List.setIfInBounds_toArray, List.set_cons_zero, List.set_cons_succ]
            refine takeP (i := 17) rfl (by kernel_rfl) (by kernel_rfl) (by kernel_rfl) (fun _ _ _ h => h) (by rfl) (by assumption) (v := ?_) ?_ ?_
            rotate_left
            · intro w' hSw
              try dsimp only at hSw
              go_simp
              try with_reducible rfl
            try simp only [Act.put, List.setIfInBounds_toArray, List.set_cons_zero, List.set_cons_succ]
            refine takeP (i := 18) rfl (by kernel_rfl) (by kernel_rfl) (by kernel_rfl) (fun _ _ _ h => h) (by rfl) (by assumption) (v := ?_) ?_ ?_
            rotate_left
            · intro w' hSw
              try dsimp only at hSw
              go_simp
              try with_reducible rfl
            try simp only [Act.put, List.setIfInBounds_toArray, List.set_cons_zero, List.set_cons_succ]
            refine takeP (i := 19) rfl (by kernel_rfl) (by kernel_rfl) (by kernel_rfl) (fun _ _ _ h => h) (by rfl) (by assumption) (v := ?_) ?_ ?_
            rotate_left
            · intro w' hSw
              try dsimp only at hSw
              go_simp
              try with_reducible rfl
            try simp only [Act.put, List.setIfInBounds_toArray, List.set_cons_zero, List.set_cons_succ]
            refine wpAnyH_done (by kernel_rfl) ?_ _
            go_wp2_with fail
            go_roundw
            case rel => exact ⟨kp + 1 + 1, hlt, by go_num, HNEW.out, hW0.trans (Below.mono hX5 (by have := hW0.size; omega))⟩
            case measure => simp [intOf]; omega
        · obtain rfl : k = 0 := by omega
          have hnew : ∀ j, j < 0 + 1 → LOkAt es S j := by
            intro j hj e' he'
            obtain rfl : j = 0 := by omega
            rw [HE.out] at he'
            cases he'
            exact ⟨d1, fun h => by omega⟩
          have HS := Lib.hid hbox
          have HNEW := Lib.hid hnew
          clear hbox hnew
          refine wp_region_held_drew (S := (fun w' => w'.cell? ⟨q, 0, none⟩ = some (.slice Ak nk ck) ∧ w'.cell? ⟨q, 1, none⟩ = some (.slice Av nv cv) ∧ w'.cell? ⟨q, 2, none⟩ = some (.int .i64 e.long) ∧ w'.cell? ⟨q, 3, none⟩ = some (.int .u32 (e.first : Int)))) (by kernel_rfl) ?_ (fun hHeld => ?_)
          · exact HS.out _ (by assumption)
          refine takeP (i := 0) rfl (by kernel_rfl) (by kernel_rfl) (by kernel_rfl) (fun _ _ _ h => h) (by rfl) (by assumption) (v := ?_) ?_ ?_
          rotate_left
          · intro w' hSw
            try dsimp only at hSw
            go_simp
            try with_reducible rfl
          try simp only [Act.put, List.setIfInBounds_toArray, List.set_cons_zero, List.set_cons_succ]
          refine takeP (i := 1) rfl (by kernel_rfl) (by kernel_rfl) (by kernel_rfl) (fun _ _ _ h => h) (by rfl) (by assumption) (v := ?_) ?_ ?_
          rotate_left
          · intro w' hSw
            try dsimp only at hSw
            go_simp
            try with_reducible rfl
          try simp only [Act.put, List.setIfInBounds_toArray, List.set_cons_zero, List.set_cons_succ]
          refine carryP (i := 2) rfl (by kernel_rfl) (by rfl) (fun K hK => ?_)
          go_simp
          refine (hok _).mono ?_
          rintro r w5 ⟨rfl, hb5⟩
          have hX5 : RB W w5 := RB.step hb5 hX0
          refine hK.out _ _ ?_ (fun hHeld => ?_)
          · exact HS.out _ (by assumption)
          clear hK K
          try simp only [Act.put, List.setIfInBounds_toArray, List.set_cons_zero, List.set_cons_succ]
          refine takeP (i := 3) rfl (by kernel_rfl) (by kernel_rfl) (by kernel_rfl) (fun _ _ _ h => h) (by rfl) (by assumption) (v := ?_) ?_ ?_
          rotate_left
          · intro w' hSw
            try dsimp only at hSw
            go_simp
            try with_reducible rfl
          try simp only [Act.put, List.setIfInBounds_toArray, List.set_cons_zero, List.set_cons_succ]
          refine takeP (i := 4) rfl (by kernel_rfl) (by kernel_rfl) (by kernel_rfl) (fun _ _ _ h => h) (by rfl) (by assumption) (v := ?_) ?_ ?_
          rotate_left
          · intro w' hSw
            try dsimp only at hSw
            go_simp
            try with_reducible rfl
          try simp only [Act.put, List.setIfInBounds_toArray, List.set_cons_zero, List.set_cons_succ]
          refine takeP (i := 5) rfl (by kernel_rfl) (by kernel_rfl) (by kernel_rfl) (fun _ _ _ h => h) (by rfl) (by assumption) (v := ?_) ?_ ?_
          rotate_left
          · intro w' hSw
            try dsimp only at hSw
            go_simp
            try with_reducible rfl
          try simp only [Act.put, List.setIfInBounds_toArray, List.set_cons_zero, List.set_cons_succ]
          refine takeP (i := 6) rfl (by kernel_rfl) (by kernel_rfl) (by kernel_rfl) (fun _ _ _ h => h) (by rfl) (by assumption) (v := ?_) ?_ ?_
          rotate_left
          · intro w' hSw
            try dsimp only at hSw
            go_simp
            try with_reducible rfl
          try simp only [Act.put, List.setIfInBounds_toArray, List.set_cons_zero, List.set_cons_succ]
          refine takeP (i := 7) rfl (by kernel_rfl) (by kernel_rfl) (by kernel_rfl) (fun _ _ _ h => h) (by rfl) (by assumption) (v := ?_) ?_ ?_
          rotate_left
          · intro w' hSw
            try dsimp only at hSw
            go_simp
            try with_reducible rfl
          try simp only [Act.put, List.setIfInBounds_toArray, List.set_cons_zero, List.set_cons_succ]
          refine takeN (i := 8) rfl (by kernel_rfl) (by kernel_rfl) (by kernel_rfl) (fun _ _ _ h => h) (by rfl) (by assumption) ?_
          try simp only [Act.put, List.setIfInBounds_toArray, List.set_cons_zero, List.set_cons_succ]
          refine takeN (i := 9) rfl (by kernel_rfl) (by kernel_rfl) (by kernel_rfl) (fun _ _ _ h => h) (by rfl) (by assumption) ?_
          try simp only [Act.put, List.setIfInBounds_toArray, List.set_cons_zero, List.set_cons_succ]
          refine takeN (i := 10) rfl (by kernel_rfl) (by kernel_rfl) (by kernel_rfl) (fun _ _ _ h => h) (by rfl) (by assumption) ?_
          try simp only [Act.put, List.setIfInBounds_toArray, List.set_cons_zero, List.set_cons_succ]
          refine takeN (i := 11) rfl (by kernel_rfl) (by kernel_rfl) (by kernel_rfl) (fun _ _ _ h => h) (by rfl) (by assumption) ?_
          try simp only [Act.put, List.setIfInBounds_toArray, List.set_cons_zero, List.set_cons_succ]
          refine takeN (i := 12) rfl (by kernel_rfl) (by kernel_rfl) (by kernel_rfl) (fun _ _ _ h => h) (by rfl) (by assumption) ?_
          try simp only [Act.put, List.setIfInBounds_toArray, List.set_cons_zero, List.set_cons_succ]
          refine takeN (i := 13) rfl (by kernel_rfl) (by kernel_rfl) (by kernel_rfl) (fun _ _ _ h => h) (by rfl) (by assumption) ?_
          try simp only [Act.put, List.setIfInBounds_toArray, List.set_cons_zero, List.set_cons_succ]
          refine takeN (i := 14) rfl (by kernel_rfl) (by kernel_rfl) (by kernel_rfl) (fun _ _ _ h => h) (by rfl) (by assumption) ?_
          try simp only [Act.put, List.setIfInBounds_toArray, List.set_cons_zero, List.set_cons_succ]
          refine takeN (i := 15) rfl (by kernel_rfl) (by kernel_rfl) (by kernel_rfl) (fun _ _ _ h => h) (by rfl) (by assumption) ?_
          try simp only [Act.put, List.setIfInBounds_toArray, List.set_cons_zero, List.set_cons_succ]
          refine takeN (i := 16) rfl (by kernel_rfl) (by kernel_rfl) (by kernel_rfl) (fun _ _ _ h => h) (by rfl) (by assumption) ?_
          try simp only [Act.put, List.setIfInBounds_toArray, List.set_cons_zero, List.set_cons_succ]
          refine takeN (i := 17) rfl (by kernel_rfl) (by kernel_rfl) (by kernel_rfl) (fun _ _ _ h => h) (by rfl) (by assumption) ?_
          try simp only [Act.put, List.setIfInBounds_toArray, List.set_cons_zero, List.set_cons_succ]
          refine takeP (i := 18) rfl (by kernel_rfl) (by kernel_rfl) (by kernel_rfl) (fun _ _ _ h => h) (by rfl) (by assumption) (v := ?_) ?_ ?_
          rotate_left
          · intro w' hSw
            try dsimp only at hSw
            go_simp
            try with_reducible rfl
          try simp only [Act.put, List.setIfInBounds_toArray, List.set_cons_zero, List.set_cons_succ]
          refine takeP (i := 19) rfl (by kernel_rfl) (by kernel_rfl) (by kernel_rfl) (fun _ _ _ h => h) (by rfl) (by assumption) (v := ?_) ?_ ?_
          rotate_left
          · intro w' hSw
            try dsimp only at hSw
            go_simp
            try with_reducible rfl
          try simp only [Act.put, List.setIfInBounds_toArray, List.set_cons_zero, List.set_cons_succ]
          refine wpAnyH_done (by kernel_rfl) ?_ _
          go_wp2_with fail
          go_roundw
          case rel => exact ⟨0 + 1, hlt, by go_num, HNEW.out, hW0.trans (Below.mono hX5 (by have := hW0.size; omega))⟩
          case measure => simp [intOf]; omega
      · have hok : ∀ W, Calls Try.prog 57 #[lVal e Ak nk ck Av nv cv, .int .i64 S] W fun r w' => r = .returned (.bool false) ∧ Below W.heap.size W w' := fun W => (hok0 W).mono fun r w' ⟨b, hr, hb, hl⟩ => ⟨by
          rw [hr]
          cases b with
          | false => rfl
          | true => exact absurd (hb.1 rfl) d1, hl⟩
        have hno : ¬ LRight es S := fun hh => d1 (hh.2.2 k (by rw [h.1]; exact hlt) _ HE.out).1
        have HS := Lib.hid hbox
        clear hbox
        refine wp_region_held_drew (S := (fun w' => w'.cell? ⟨q, 0, none⟩ = some (.slice Ak nk ck) ∧ w'.cell? ⟨q, 1, none⟩ = some (.slice Av nv cv) ∧ w'.cell? ⟨q, 2, none⟩ = some (.int .i64 e.long) ∧ w'.cell? ⟨q, 3, none⟩ = some (.int .u32 (e.first : Int)))) (by kernel_rfl) ?_ (fun hHeld => ?_)
        · exact HS.out _ (by assumption)
        refine takeP (i := 0) rfl (by kernel_rfl) (by kernel_rfl) (by kernel_rfl) (fun _ _ _ h => h) (by rfl) (by assumption) (v := ?_) ?_ ?_
        rotate_left
        · intro w' hSw
          try dsimp only at hSw
          go_simp
          try with_reducible rfl
        try simp only [Act.put, List.setIfInBounds_toArray, List.set_cons_zero, List.set_cons_succ]
        refine takeP (i := 1) rfl (by kernel_rfl) (by kernel_rfl) (by kernel_rfl) (fun _ _ _ h => h) (by rfl) (by assumption) (v := ?_) ?_ ?_
        rotate_left
        · intro w' hSw
          try dsimp only at hSw
          go_simp
          try with_reducible rfl
        try simp only [Act.put, List.setIfInBounds_toArray, List.set_cons_zero, List.set_cons_succ]
        refine carryP (i := 2) rfl (by kernel_rfl) (by rfl) (fun K hK => ?_)
        go_simp
        refine (hok _).mono ?_
        rintro r w5 ⟨rfl, hb5⟩
        have hX5 : RB W w5 := RB.step hb5 hX0
        refine hK.out _ _ ?_ (fun hHeld => ?_)
        · exact HS.out _ (by assumption)
        clear hK K
        try simp only [Act.put, List.setIfInBounds_toArray, List.set_cons_zero, List.set_cons_succ]
        refine takeP (i := 3) rfl (by kernel_rfl) (by kernel_rfl) (by kernel_rfl) (fun _ _ _ h => h) (by rfl) (by assumption) (v := ?_) ?_ ?_
        rotate_left
        · intro w' hSw
          try dsimp only at hSw
          go_simp
          try with_reducible rfl
        try simp only [Act.put, List.setIfInBounds_toArray, List.set_cons_zero, List.set_cons_succ]
        refine takeP (i := 4) rfl (by kernel_rfl) (by kernel_rfl) (by kernel_rfl) (fun _ _ _ h => h) (by rfl) (by assumption) (v := ?_) ?_ ?_
        rotate_left
        · intro w' hSw
          try dsimp only at hSw
          go_simp
          try with_reducible rfl
        try simp only [Act.put, List.setIfInBounds_toArray, List.set_cons_zero, List.set_cons_succ]
        refine takeN (i := 5) rfl (by kernel_rfl) (by kernel_rfl) (by kernel_rfl) (fun _ _ _ h => h) (by rfl) (by assumption) ?_
        try simp only [Act.put, List.setIfInBounds_toArray, List.set_cons_zero, List.set_cons_succ]
        refine takeN (i := 6) rfl (by kernel_rfl) (by kernel_rfl) (by kernel_rfl) (fun _ _ _ h => h) (by rfl) (by assumption) ?_
        try simp only [Act.put, List.setIfInBounds_toArray, List.set_cons_zero, List.set_cons_succ]
        refine takeN (i := 7) rfl (by kernel_rfl) (by kernel_rfl) (by kernel_rfl) (fun _ _ _ h => h) (by rfl) (by assumption) ?_
        try simp only [Act.put, List.setIfInBounds_toArray, List.set_cons_zero, List.set_cons_succ]
        refine takeN (i := 8) rfl (by kernel_rfl) (by kernel_rfl) (by kernel_rfl) (fun _ _ _ h => h) (by rfl) (by assumption) ?_
        try simp only [Act.put, List.setIfInBounds_toArray, List.set_cons_zero, List.set_cons_succ]
        refine takeN (i := 9) rfl (by kernel_rfl) (by kernel_rfl) (by kernel_rfl) (fun _ _ _ h => h) (by rfl) (by assumption) ?_
        try simp only [Act.put, List.setIfInBounds_toArray, List.set_cons_zero, List.set_cons_succ]
        refine takeN (i := 10) rfl (by kernel_rfl) (by kernel_rfl) (by kernel_rfl) (fun _ _ _ h => h) (by rfl) (by assumption) ?_
        try simp only [Act.put, List.setIfInBounds_toArray, List.set_cons_zero, List.set_cons_succ]
        refine takeN (i := 11) rfl (by kernel_rfl) (by kernel_rfl) (by kernel_rfl) (fun _ _ _ h => h) (by rfl) (by assumption) ?_
        try simp only [Act.put, List.setIfInBounds_toArray, List.set_cons_zero, List.set_cons_succ]
        refine takeN (i := 12) rfl (by kernel_rfl) (by kernel_rfl) (by kernel_rfl) (fun _ _ _ h => h) (by rfl) (by assumption) ?_
        try simp only [Act.put, List.setIfInBounds_toArray, List.set_cons_zero, List.set_cons_succ]
        refine takeN (i := 13) rfl (by kernel_rfl) (by kernel_rfl) (by kernel_rfl) (fun _ _ _ h => h) (by rfl) (by assumption) ?_
        try simp only [Act.put, List.setIfInBounds_toArray, List.set_cons_zero, List.set_cons_succ]
        refine takeN (i := 14) rfl (by kernel_rfl) (by kernel_rfl) (by kernel_rfl) (fun _ _ _ h => h) (by rfl) (by assumption) ?_
        try simp only [Act.put, List.setIfInBounds_toArray, List.set_cons_zero, List.set_cons_succ]
        refine takeN (i := 15) rfl (by kernel_rfl) (by kernel_rfl) (by kernel_rfl) (fun _ _ _ h => h) (by rfl) (by assumption) ?_
        try simp only [Act.put, List.setIfInBounds_toArray, List.set_cons_zero, List.set_cons_succ]
        refine takeN (i := 16) rfl (by kernel_rfl) (by kernel_rfl) (by kernel_rfl) (fun _ _ _ h => h) (by rfl) (by assumption) ?_
        try simp only [Act.put, List.setIfInBounds_toArray, List.set_cons_zero, List.set_cons_succ]
        refine takeN (i := 17) rfl (by kernel_rfl) (by kernel_rfl) (by kernel_rfl) (fun _ _ _ h => h) (by rfl) (by assumption) ?_
        try simp only [Act.put, List.setIfInBounds_toArray, List.set_cons_zero, List.set_cons_succ]
        refine takeN (i := 18) rfl (by kernel_rfl) (by kernel_rfl) (by kernel_rfl) (fun _ _ _ h => h) (by rfl) (by assumption) ?_
        try simp only [Act.put, List.setIfInBounds_toArray, List.set_cons_zero, List.set_cons_succ]
        refine takeP (i := 19) rfl (by kernel_rfl) (by kernel_rfl) (by kernel_rfl) (fun _ _ _ h => h) (by rfl) (by assumption) (v := ?_) ?_ ?_
        rotate_left
        · intro w' hSw
          try dsimp only at hSw
          go_simp
          try with_reducible rfl
        try simp only [Act.put, List.setIfInBounds_toArray, List.set_cons_zero, List.set_cons_succ]
        refine wpAnyH_done (by kernel_rfl) ?_ _
        go_wp2_with fail
        go_ret
        exact LRP.no hno (hW0.trans (Below.mono hX5 (by have := hW0.size; omega)))
    · obtain rfl : k = n := by omega
      have hr : LRight es S := ⟨by omega, by omega, fun i hi => hall i (by rw [h.1] at hi; exact hi)⟩
      clear hall
      go_wp2_with fail
      go_ret
      exact LRP.yes hr hbw

end Go.Proofs.Ytmljfjmceakahaa
