/- branch.Right. -/
import Derived.Test.YtmljfjmceakahaaBranch
import Derived.Test.YtmljfjmceakahaaBCmp
namespace Go.Proofs.Ytmljfjmceakahaa
open Go.RowKit
set_option linter.unusedVariables false
set_option linter.unusedSimpArgs false

/-- Entry i may stand where it stands. -/
def BOk (es : List (List UInt8 × Nat)) (i : Nat) : Prop :=
  ∀ k x, es[i]? = some (k, x) → 2 ≤ x ∧ k.length ≤ 96 ∧ (0 < i → ∀ k' x', es[i - 1]? = some (k', x') → Lib.compareBytes k' k < 0)
/-- Entries may be those of a page. -/
def BRight (es : List (List UInt8 × Nat)) (S : Int) : Prop :=
  512 ≤ S ∧ S ≤ 4096 ∧ 2 ≤ es.length ∧ (∀ k x, es[0]? = some (k, x) → k.length = 0) ∧ ∀ i, i < es.length → BOk es i

/-- What Right tells. -/
def BRP (es : List (List UInt8 × Nat)) (S : Int) (w : World) (e : Ending) (w' : World) : Prop := ∃ b, e = .returned (.bool b) ∧ (b = true ↔ BRight es S) ∧ Below w.heap.size w w'
theorem BRP.no {es : List (List UInt8 × Nat)} {S : Int} {w w' : World} (h : ¬ BRight es S) (hb : Below w.heap.size w w') : BRP es S w (.returned (.bool false)) w' := ⟨false, rfl, by simpa using h, hb⟩
theorem BRP.yes {es : List (List UInt8 × Nat)} {S : Int} {w w' : World} (h : BRight es S) (hb : Below w.heap.size w w') : BRP es S w (.returned (.bool true)) w' := ⟨true, rfl, by simpa using h, hb⟩

set_option maxRecDepth 100000 in
set_option maxHeartbeats 2000000 in
theorem bright_any (w : World) (B : Nat) (A : Option Addr) (n c : Nat) (es : List (List UInt8 × Nat)) (h : Ents w B A n es) (hBw : B ≤ w.heap.size) (hn : n ≤ 1000000) (S : Int) :
    Calls Try.prog 20 #[.slice A n c, .int .i64 S] w (BRP es S w) := by
  by_cases c1 : S < 512
  · go_enter Try.func20, Try.ntmps20
    go_wp2_with fail
    go_ret
    exact BRP.no (fun hh => by have := hh.1; omega) (Below.refl _ _)
  by_cases c2 : 4096 < S
  · go_enter Try.func20, Try.ntmps20
    go_wp2_with fail
    go_ret
    exact BRP.no (fun hh => by have := hh.2.1; omega) (Below.refl _ _)
  by_cases c3 : n < 2
  · have c3d : decide ((n : Int) < 2) = true := decide_eq_true (by omega)
    go_enter Try.func20, Try.ntmps20
    go_wp2_with fail
    go_ret
    exact BRP.no (fun hh => by have := hh.2.2.1; rw [h.1] at this; omega) (Below.refl _ _)
  have c3d : decide ((n : Int) < 2) = false := decide_eq_false (by omega)
  obtain ⟨k0, x0, ad, Ak0, nk0, ck0, he0, hx0, rfl, hB, a00, a01, hsl0⟩ := h.at_ (show 0 < n by omega)
  rw [Nat.zero_mul, show ad.add 0 = ad from by cases ad; rfl] at a00
  have hpn : 0 < n := by omega
  by_cases c4 : 0 < nk0
  · have c4d : decide (0 < (nk0 : Int)) = true := decide_eq_true (by omega)
    go_enter Try.func20, Try.ntmps20
    go_wp2_with fail
    go_ret
    exact BRP.no (fun hh => by have := hh.2.2.2.1 _ _ he0; rw [hsl0.len] at this; omega) (Below.refl _ _)
  have c4d : decide (0 < (nk0 : Int)) = false := decide_eq_false (by omega)
  go_enter Try.func20, Try.ntmps20
  go_wp2_with fail
  clear a00 a01
  go_loopw [28] (fun i wr => ∃ k : Nat, k ≤ n ∧ i = .int .i64 (k : Int) ∧ (∀ j, j < k → BOk es j) ∧ Below w.heap.size w wr) (fun i _ => n - (intOf i).toNat)
  case atStart => exact ⟨0, Nat.zero_le _, rfl, fun j hj => by omega, Below.refl _ _⟩
  case round =>
    obtain ⟨k, hkn, rfl, hall, hbw⟩ := hrel
    by_cases hlt : k < n
    · obtain ⟨ky, x, ad', Ak, nk, ck, he, hx, had, _, a0, a1, hsl⟩ := (h.at_ hlt)
      cases had
      have hbs := hbw.size
      have b0 := (hbw.cell (p := ad.add (k * 2)) (by rw [block_of_add]; omega)).trans a0
      have b1' := (hbw.cell (p := (ad.add (k * 2)).add 1) (by rw [block_of_add, block_of_add]; omega)).trans a1
      have b1 : wr.cell? ⟨(ad.add (k * 2)).block, (ad.add (k * 2)).off + 1, none⟩ = some (.int .u32 x) := b1'
      have hslw := hsl.more hBw
      clear b1' a0 a1
      by_cases d1 : x < 2
      · have d1d : decide ((x : Int) < 2) = true := decide_eq_true (by omega)
        have hno : ¬ BRight es S := fun hh => by have := (hh.2.2.2.2 k (by rw [h.1]; exact hlt) _ _ he).1; omega
        have HE := Lib.hid he
        clear he
        go_wp2_with fail
        go_quiet (fail)
        go_wp2
        go_ret
        exact BRP.no hno (below_drewN (hbw.alloc hbs _) _)
      · have d1d : decide ((x : Int) < 2) = false := decide_eq_false (by omega)
        by_cases d2 : 96 < nk
        · have d2d : decide (96 < (nk : Int)) = true := decide_eq_true (by omega)
          have hno : ¬ BRight es S := fun hh => by have := (hh.2.2.2.2 k (by rw [h.1]; exact hlt) _ _ he).2.1; rw [hsl.len] at this; omega
          clear he
          go_wp2_with fail
          go_quiet (fail)
          go_wp2
          go_ret
          exact BRP.no hno (below_drewN (hbw.alloc hbs _) _)
        · have d2d : decide (96 < (nk : Int)) = false := decide_eq_false (by omega)
          by_cases d3 : 0 < k
          · obtain ⟨kp, rfl⟩ : ∃ kp, k = kp + 1 := ⟨k - 1, by omega⟩
            obtain ⟨kq, xq, ad', Aq, nq', cq, heq, hxq, had, _, p0, p1, hslq⟩ := (h.at_ (show kp < n by omega))
            cases had
            have q0 : ∀ o, (wr.alloc o).cell? (ad.add (kp * 2)) = some (.slice Aq nq' cq) := fun o => by
              have q1 := (hbw.cell (p := ad.add (kp * 2)) (by rw [block_of_add]; omega)).trans p0
              exact (((Below.refl wr.heap.size wr).alloc (Nat.le_refl _) o).cell (p := ad.add (kp * 2)) (by rw [block_of_add]; omega)).trans q1
            have bel : ∀ o m, Below B w ((wr.alloc o).drewN m) := fun o m => below_drewN ((hbw.mono hBw).alloc (by omega) o) m
            have bel0 : ∀ o, Below B w (wr.alloc o) := fun o => (hbw.mono hBw).alloc (by omega) o
            obtain ⟨r, hr⟩ : ∃ r, Lib.compareBytes kq ky = r := ⟨_, rfl⟩
            have hcmp : ∀ W, Below B w W → Calls Try.prog 47 #[.slice Aq nq' cq, .slice Ak nk ck] W fun e w' => e = .returned (.int .i64 r) ∧ w' = W := fun W hW => by
              have := bcmp_any W B B _ _ _ _ _ _ _ _ (hslq.below hW) (hsl.below hW)
              rw [hr] at this
              exact this
            by_cases d4 : 0 ≤ r
            · have d4d : decide (0 ≤ r) = true := decide_eq_true d4
              have hno : ¬ BRight es S := fun hh => by
                have := (hh.2.2.2.2 (kp + 1) (by rw [h.1]; exact hlt) _ _ he).2.2 (by omega) _ _ heq
                rw [hr] at this
                omega
              clear he heq p0 p1 hall hr
              go_wp2_with fail
              go_quiet (exact (hcmp _ (bel _ _)).mono (fun e w'' hh => ⟨hh.1, _, hh.2⟩))
              go_wp2
              go_ret
              exact BRP.no hno (below_drewN (hbw.alloc hbs _) _)
            · have d4d : decide (0 ≤ r) = false := decide_eq_false d4
              have hok : ∀ j, j < kp + 1 + 1 → BOk es j := by
                intro j hj k' x' hk'
                by_cases e : j < kp + 1
                · exact hall j e k' x' hk'
                · obtain rfl : j = kp + 1 := by omega
                  rw [he] at hk'
                  cases hk'
                  refine ⟨by omega, by rw [hsl.len]; omega, fun _ k'' x'' hk'' => ?_⟩
                  rw [Nat.add_sub_cancel, heq] at hk''
                  cases hk''
                  rw [hr]
                  omega
              clear he heq p0 p1 hall hr
              go_wp2_with fail
              go_quiet (exact (hcmp _ (bel _ _)).mono (fun e w'' hh => ⟨hh.1, _, hh.2⟩))
              go_wp2
              go_roundw
              case rel => exact ⟨kp + 1 + 1, hlt, by go_num, hok, below_drewN (hbw.alloc hbs _) _⟩
              case measure => simp [intOf]; omega
          · obtain rfl : k = 0 := by omega
            have hok : ∀ j, j < 0 + 1 → BOk es j := by
              intro j hj k' x' hk'
              obtain rfl : j = 0 := by omega
              rw [he] at hk'
              cases hk'
              exact ⟨by omega, by rw [hsl.len]; omega, fun h0 => by omega⟩
            rw [Nat.zero_mul, show ad.add 0 = ad from by cases ad; rfl] at b0 b1
            clear he
            go_wp2_with fail
            go_quiet (fail)
            go_wp2
            go_roundw
            case rel => exact ⟨0 + 1, hlt, by go_num, hok, below_drewN (hbw.alloc hbs _) _⟩
            case measure => simp [intOf]; omega
    · obtain rfl : k = n := by omega
      go_wp2_with fail
      go_ret
      refine BRP.yes ⟨by omega, by omega, by rw [h.1]; omega, fun k' x' hk' => ?_, fun i hi => hall i (by rw [h.1] at hi; exact hi)⟩ hbw
      rw [he0] at hk'
      cases hk'
      rw [hsl0.len]
      omega

end Go.Proofs.Ytmljfjmceakahaa
