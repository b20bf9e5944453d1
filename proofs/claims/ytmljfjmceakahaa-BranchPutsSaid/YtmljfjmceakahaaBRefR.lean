/- rubricatorref05.Right. -/
import Derived.Test.YtmljfjmceakahaaBRef
namespace Go.Proofs.Ytmljfjmceakahaa
open Go.RowKit
set_option linter.unusedVariables false
set_option linter.unusedSimpArgs false

set_option maxRecDepth 100000 in
set_option maxHeartbeats 2000000 in
theorem rright_any (w : World) (B : Nat) (A : Option Addr) (n c : Nat) (es : List (List UInt8 × Nat)) (h : REnts w B A n es) (hBw : B ≤ w.heap.size) (hn : n ≤ 1000000) (hk : ∀ e ∈ es, e.1.length ≤ 1000000) (S : Int) :
    Calls Try.prog 19 #[.slice A n c, .int .i64 S] w (BRP es S w) := by
  by_cases c1 : S < 512
  · go_enter Try.func19, Try.ntmps19
    go_wp2_with fail
    go_ret
    exact BRP.no (fun hh => by have := hh.1; omega) (Below.refl _ _)
  by_cases c2 : 4096 < S
  · go_enter Try.func19, Try.ntmps19
    go_wp2_with fail
    go_ret
    exact BRP.no (fun hh => by have := hh.2.1; omega) (Below.refl _ _)
  by_cases c3 : n < 2
  · have c3d : decide ((n : Int) < 2) = true := decide_eq_true (by omega)
    go_enter Try.func19, Try.ntmps19
    go_wp2_with fail
    go_ret
    exact BRP.no (fun hh => by have := hh.2.2.1; rw [h.1] at this; omega) (Below.refl _ _)
  have c3d : decide ((n : Int) < 2) = false := decide_eq_false (by omega)
  obtain ⟨k0, x0, ad, he0, hx0, rfl, hB, a00, a01⟩ := h.at_ (show 0 < n by omega)
  rw [Nat.zero_mul, show ad.add 0 = ad from by cases ad; rfl] at a00 a01
  have b01 : w.cell? ⟨ad.block, ad.off + 1, none⟩ = some (.int .u32 x0) := a01
  have hpn : 0 < n := by omega
  by_cases c4 : k0 = []
  · subst c4
    by_cases c5 : x0 < 2
    · have c5d : decide ((x0 : Int) < 2) = true := decide_eq_true (by omega)
      go_enter Try.func19, Try.ntmps19
      go_wp2_with fail
      go_ret
      exact BRP.no (fun hh => by have := (hh.2.2.2.2 0 (by rw [h.1]; omega) _ _ he0).1; omega) (Below.refl _ _)
    · have c5d : decide ((x0 : Int) < 2) = false := decide_eq_false (by omega)
      go_enter Try.func19, Try.ntmps19
      go_wp2_with fail
      clear a00 a01 b01
      go_loopw [5] (fun i wr => ∃ k : Nat, 1 ≤ k ∧ k ≤ n ∧ i = .int .i64 (k : Int) ∧ (∀ j, j < k → BOk es j) ∧ Below w.heap.size w wr) (fun i _ => n - (intOf i).toNat)
      case atStart =>
        refine ⟨1, Nat.le_refl _, by omega, rfl, fun j hj k' x' hk' => ?_, Below.refl _ _⟩
        obtain rfl : j = 0 := by omega
        rw [he0] at hk'
        cases hk'
        exact ⟨by omega, by simp, fun h0 => by omega⟩
      case round =>
        obtain ⟨k, hk1, hkn, rfl, hall, hbw⟩ := hrel
        by_cases hlt : k < n
        · obtain ⟨kp, rfl⟩ : ∃ kp, k = kp + 1 := ⟨k - 1, by omega⟩
          obtain ⟨ky, x, ad', he, hx, had, _, p0, p1⟩ := (h.at_ hlt)
          cases had
          obtain ⟨kq, xq, ad', heq, hxq, had, _, q0, q1⟩ := (h.at_ (show kp < n by omega))
          cases had
          have hbs := hbw.size
          have b0 := (hbw.cell (p := ad.add ((kp + 1) * 2)) (by rw [block_of_add]; omega)).trans p0
          have b1' := (hbw.cell (p := (ad.add ((kp + 1) * 2)).add 1) (by rw [block_of_add, block_of_add]; omega)).trans p1
          have b1 : wr.cell? ⟨(ad.add ((kp + 1) * 2)).block, (ad.add ((kp + 1) * 2)).off + 1, none⟩ = some (.int .u32 x) := b1'
          have r0 := (hbw.cell (p := ad.add (kp * 2)) (by rw [block_of_add]; omega)).trans q0
          obtain ⟨nk, hnk⟩ : ∃ nk, ky.length = nk := ⟨_, rfl⟩
          have hnk1 : nk ≤ 1000000 := by rw [← hnk]; exact hk _ (List.mem_of_getElem? he)
          have hok0 := fun hh : BRight es S => (hh.2.2.2.2 (kp + 1) (by rw [h.1]; exact hlt)) _ _ he
          have hcm := fun hh : BRight es S => (hok0 hh).2.2 (by omega) kq xq (by simpa using heq)
          obtain ⟨ts, hts⟩ : ∃ ts, st ky = ts := ⟨_, rfl⟩
          obtain ⟨tq, htq⟩ : ∃ tq, st kq = tq := ⟨_, rfl⟩
          have hless : Op.bytesLess tq.toList ts.toList = decide (Lib.compareBytes kq ky < 0) := by rw [← hts, ← htq, st_toList, st_toList, bytesLess_cmp]
          have hsz : ts.size = nk := by rw [← hts, st_size, hnk]
          rw [hts] at b0
          rw [htq] at r0
          clear b1' p0 p1 q0 q1
          by_cases d0 : ky = []
          · have hem : ts.toList.isEmpty = true := by rw [← hts, st_toList, d0]; rfl
            have hno : ¬ BRight es S := fun hh => by
              have := hcm hh
              rw [d0] at this
              cases kq <;> simp [Lib.compareBytes] at this
            clear hless hsz hts htq hok0 hcm he heq hall
            go_wp2_with fail
            go_quiet (fail)
            go_wp2
            go_ret
            exact BRP.no hno (below_drewN hbw _)
          · have hem : ts.toList.isEmpty = false := by
              rw [← hts, st_toList]
              cases ky with
              | nil => exact absurd rfl d0
              | cons a t => rfl
            by_cases d1 : 96 < nk
            · have d1d : decide (96 < (nk : Int)) = true := decide_eq_true (by omega)
              have hno : ¬ BRight es S := fun hh => by have := (hok0 hh).2.1; omega
              clear hless hts htq hok0 hcm he heq hall
              go_wp2_with fail
              go_quiet (fail)
              go_wp2
              go_ret
              exact BRP.no hno (below_drewN hbw _)
            · have d1d : decide (96 < (nk : Int)) = false := decide_eq_false (by omega)
              by_cases d2 : x < 2
              · have d2d : decide ((x : Int) < 2) = true := decide_eq_true (by omega)
                have hno : ¬ BRight es S := fun hh => by have := (hok0 hh).1; omega
                clear hless hts htq hok0 hcm he heq hall
                go_wp2_with fail
                go_quiet (fail)
                go_wp2
                go_ret
                exact BRP.no hno (below_drewN hbw _)
              · have d2d : decide ((x : Int) < 2) = false := decide_eq_false (by omega)
                by_cases d3 : Lib.compareBytes kq ky < 0
                · rw [decide_eq_true d3] at hless
                  have hok : ∀ j, j < kp + 1 + 1 → BOk es j := by
                    intro j hj k' x' hk'
                    by_cases e : j < kp + 1
                    · exact hall j e k' x' hk'
                    · obtain rfl : j = kp + 1 := by omega
                      rw [he] at hk'
                      cases hk'
                      refine ⟨by omega, by omega, fun _ k'' x'' hk'' => ?_⟩
                      rw [Nat.add_sub_cancel, heq] at hk''
                      cases hk''
                      exact d3
                  clear hts htq hok0 hcm he heq hall d3
                  go_wp2_with fail
                  go_quiet (fail)
                  go_wp2
                  go_roundw
                  case rel => exact ⟨kp + 1 + 1, by omega, hlt, by go_num, hok, below_drewN hbw _⟩
                  case measure => simp [intOf]; omega
                · rw [decide_eq_false d3] at hless
                  have hno : ¬ BRight es S := fun hh => d3 (hcm hh)
                  clear hts htq hok0 hcm he heq hall d3
                  go_wp2_with fail
                  go_quiet (fail)
                  go_wp2
                  go_ret
                  exact BRP.no hno (below_drewN hbw _)
        · obtain rfl : k = n := by omega
          have hr : BRight es S := ⟨by omega, by omega, by rw [h.1]; omega, fun k' x' hk' => by rw [he0] at hk'; cases hk'; rfl, fun i hi => hall i (by rw [h.1] at hi; exact hi)⟩
          clear hall
          go_wp2_with fail
          go_ret
          exact BRP.yes hr hbw
  · obtain ⟨ts, hts⟩ : ∃ ts, st k0 = ts := ⟨_, rfl⟩
    rw [hts] at a00
    have hem : ts.toList.isEmpty = false := by
      rw [← hts, st_toList]
      cases k0 with
      | nil => exact absurd rfl c4
      | cons a t => rfl
    go_enter Try.func19, Try.ntmps19
    go_wp2_with fail
    go_ret
    exact BRP.no (fun hh => by have := hh.2.2.2.1 _ _ he0; exact c4 (List.eq_nil_of_length_eq_zero this)) (Below.refl _ _)

end Go.Proofs.Ytmljfjmceakahaa
