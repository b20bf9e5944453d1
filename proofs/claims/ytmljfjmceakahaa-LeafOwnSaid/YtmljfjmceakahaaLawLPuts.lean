/- LeafPuts. -/
import Derived.Test.YtmljfjmceakahaaLSame
import Derived.Test.YtmljfjmceakahaaLawLGets
namespace Go.Proofs.Ytmljfjmceakahaa
open Go.RowKit
set_option linter.unusedVariables false
set_option linter.unusedSimpArgs false

/-- What both Puts give where they don't go. -/
theorem lputs_no (w : World) (B D : Nat) (A : Option Addr) (n c : Nat) (A' : Option Addr) (c' : Nat) (es : List LE) (h : LEnts w B A n es) (hBw : B ≤ w.heap.size) (h' : RLEnts w D A' n es) (hDw : D ≤ w.heap.size) (hn : n ≤ 1000) (hsh : LSh es) (S : Int) (hR : ¬ (LRight es S ∧ (lFill es : Int) ≤ S)) :
    ∃ E : Int, (E = 1 ∨ E = 21) ∧ (∀ W, RB w W → Calls Try.prog 29 #[.slice A n c, .int .i64 S] W fun e w' => e = .returned (.tuple #[.slice none 0 0, .int .i64 E]) ∧ Below W.heap.size W w') ∧
      (∀ W, RB w W → Calls Try.prog 30 #[.slice A' n c', .int .i64 S] W fun e w' => e = .returned (.tuple #[.string (st []), .int .i64 E]) ∧ Below W.heap.size W w') := by
  by_cases h1 : LRight es S
  · have hF : S < (lFill es : Int) := by have : ¬ (lFill es : Int) ≤ S := fun h2 => hR ⟨h1, h2⟩; omega
    exact ⟨21, .inr rfl, fun W hW => lput_full W B A n c es (h.below (Below.mono hW hBw)) (Nat.le_trans hBw (Below.size hW)) (by omega) hsh S h1 hF,
      fun W hW => rlput_full W D A' n c' es (h'.below (Below.mono hW hDw)) (Nat.le_trans hDw (Below.size hW)) (by omega) hsh S h1 hF⟩
  · exact ⟨1, .inl rfl, fun W hW => lput_arg W B A n c es (h.below (Below.mono hW hBw)) (Nat.le_trans hBw (Below.size hW)) (by omega) hsh S h1,
      fun W hW => rlput_no W D A' n c' es (h'.below (Below.mono hW hDw)) (Nat.le_trans hDw (Below.size hW)) (by omega) hsh S h1⟩

set_option maxRecDepth 100000 in
set_option maxHeartbeats 2000000 in
theorem leafPuts_law (w : World) (A : Option Addr) (n c : Nat) (rs : List LE) (h : LEnts w w.heap.size A n rs) (hn : n ≤ 9223372036854775807) (S : Int) (sb : Bool) :
    Calls Try.prog 8 #[.slice A n c, .int .i64 S, .bool sb] w fun e w' => e = .returned (.bool true) ∧ Below w.heap.size w w' := by
  go_enter Try.func8, Try.ntmps8
  go_wp2_with fail
  refine (awake4 w).mono ?_
  rintro e w1 ⟨rfl, hb1⟩
  have h1 := h.below hb1
  go_wp2_with fail
  refine (lfew_any _ _ _ _ _ _ h1 hb1.size hn).mono ?_
  rintro e w2 ⟨b, rfl, hb, hb2'⟩
  have hb2 := hb1.trans (hb2'.mono hb1.size)
  have h2 := h.below hb2
  clear h1 hb1 hb2'
  cases b with
  | false =>
    clear hb
    go_wp2_with fail
    go_ret
    exact ⟨rfl, hb2⟩
  | true =>
    obtain ⟨hf1, hf2⟩ := hb.1 rfl
    rw [h.1] at hf1
    clear hb
    go_wp2_with fail
    refine (lentries_any _ _ _ _ _ _ h2 hb2.size hf1 hf2 sb).mono ?_
    rintro e w3 ⟨es, Al, cl, Aw, cw, rfl, hl30, hokl, hfs, hstr, hlc, hE, hRE, hb3'⟩
    have hb3 := hb2.trans (hb3'.mono hb2.size)
    obtain ⟨m, hm⟩ : ∃ m, es.length = m := ⟨_, rfl⟩
    rw [hm] at hl30 hE hRE hlc ⊢
    have hsh : LSh es := fun e he => by have := hfs e he; omega
    have HM := Lib.hid hm
    clear h2 hb2 hb3' hm
    have hr0 : RB w3 w3 := Below.refl _ _
    have hright := fun W (hW : RB w3 W) => lright_any W _ _ _ cl _ (hE.below hW) (Below.size hW) (by omega) (fun e he => (hsh e he).2) (fun e he => by have := (hsh e he).1; omega) S
    have hrright := fun W (hW : RB w3 W) => rlright_any W _ _ _ cw _ (hRE.below hW) (Below.size hW) (by omega) hsh S
    have hfill := fun W (hW : RB w3 W) => lfill_any W _ _ _ cl _ (hE.below hW) (Below.size hW) (by omega) hsh
    have hrfill := fun W (hW : RB w3 W) => rlfill_any W _ _ _ cw _ (hRE.below hW) (Below.size hW) (by omega) hsh
    obtain ⟨F, hF⟩ : ∃ F, lFill es = F := ⟨_, rfl⟩
    rw [hF] at hfill hrfill
    have hFF : ((F : Int) != (F : Int)) = false := by simp
    clear hstr hlc
    by_cases hgo : LRight es S ∧ (lFill es : Int) ≤ S
    · obtain ⟨hR, hfS⟩ := hgo
      have hS1 := hR.1
      have hS2 := hR.2.1
      obtain ⟨size, rfl⟩ := Int.eq_ofNat_of_zero_le (show 0 ≤ S by omega)
      have hfit : lFill es ≤ size := by omega
      have hput := fun W (hW : RB w3 W) => lput_ok W _ _ _ cl _ (hE.below hW) (Below.size hW) (by omega) size hR hfit
      have hrput := fun W (hW : RB w3 W) => rlput_ok W _ _ _ cw _ (hRE.below hW) (Below.size hW) (by omega) size hR hfit
      have hL := lPut_length es size hfit
      have hgetp := fun W g (hs : Sl W W.heap.size (some ⟨g, 0, none⟩) size size (lPut es size)) => lget_page W _ _ size size es hs (Nat.le_refl _) (by omega) hR hfit hokl
      rw [HM.out] at hgetp
      have HR := Lib.hid hR
      obtain ⟨L, hLL⟩ : ∃ L, lPut es size = L := ⟨_, rfl⟩
      rw [hLL] at hput hrput hL hgetp
      have hsz : size ≤ 4096 := by omega
      clear hR hfS hfit hLL hS1 hS2 hF hokl
      go_wp2_with fail
      refine (hput _ hr0).mono ?_
      rintro e w4 ⟨g, rfl, hg, hrow, hb4⟩
      have hr4 : RB w3 w4 := RB.step hb4 hr0
      have hsl4 := hrow.slN (n := size) hL (by omega)
      have hx4 : RB w4 w4 := Below.refl _ _
      go_wp2_with fail
      refine (hrput _ hr4).mono ?_
      rintro e w5 ⟨rfl, hb5⟩
      have hr5 := RB.step hb5 hr4
      have hx5 := RB.step hb5 hx4
      have hcv := string_of_sl (P := Try.prog) Try.underlying23 Try.underlying5 Try.underlying9 (hsl4.below hx5)
      clear hput hrput hr4 hb4 hb5 hx4 hrow hL
      go_wp2_with fail
      refine (hright _ hr5).mono ?_
      rintro e w6 ⟨rb, rfl, hrb, hb6⟩
      have hr6 := RB.step hb6 hr5
      have hx6 := RB.step hb6 hx5
      clear hcv hb6 hr5 hx5
      go_wp2_with fail
      refine (hrright _ hr6).mono ?_
      rintro e w7 ⟨rb2, rfl, hrb2, hb7⟩
      obtain rfl : rb2 = rb := by
        cases rb <;> cases rb2
        · rfl
        · exact absurd (hrb.2 HR.out) (by simp)
        · exact absurd (hrb2.2 HR.out) (by simp)
        · rfl
      have hr7 := RB.step hb7 hr6
      have hx7 := RB.step hb7 hx6
      clear hb7 hr6 hx6 hrb2 hrb
      go_wp2_with fail
      refine (hfill _ hr7).mono ?_
      rintro e w8 ⟨rfl, hb8⟩
      have hr8 := RB.step hb8 hr7
      have hx8 := RB.step hb8 hx7
      clear hb8 hr7 hx7
      go_wp2_with fail
      refine (hrfill _ hr8).mono ?_
      rintro e w9 ⟨rfl, hb9⟩
      have hr9 := RB.step hb9 hr8
      have hx9 := RB.step hb9 hx8
      clear hb9 hr8 hx8 hright hrright hfill hrfill
      go_wp2_with fail
      go_loopw [15] (fun i wr => ∃ k : Nat, k ≤ m ∧ i = .int .i64 (k : Int) ∧ RB w3 wr ∧ RB w4 wr) (fun i _ => m - (intOf i).toNat)
      case atStart => exact ⟨0, Nat.zero_le _, rfl, hr9, hx9⟩
      case round =>
        obtain ⟨k, hkm, rfl, hrr, hxr⟩ := hrel
        by_cases hlt : k < m
        · obtain ⟨e, ad, Ak, nk, ck, Av, nv, cv, he, ho, rfl, hl⟩ := hE.at_ hlt
          obtain ⟨e', ad', he', _, rfl, hr⟩ := hRE.at_ hlt
          rw [he] at he'
          cases he'
          have hs1 := hsh _ (List.mem_of_getElem? he)
          have hks := hl.2.2.2.2.2.1.len
          have hvs := hl.2.2.2.2.2.2.len
          have hcell := fun W => lcell_any W e Ak nk ck Av nv cv hks hvs (by omega) (by omega)
          have hlong := fun W => rlong_any W e (st e.key) (st e.val) (st_size _) (st_size _) hs1.1 hs1.2
          obtain ⟨tk, htk⟩ : ∃ t, st e.key = t := ⟨_, rfl⟩
          obtain ⟨tv, htv⟩ : ∃ t, st e.val = t := ⟨_, rfl⟩
          rw [htk, htv] at hlong
          have hS : ∀ w', RB w3 w' → (w'.cell? (ad.add (k * 4)) = some (.slice Ak nk ck) ∧ w'.cell? ⟨(ad.add (k * 4)).block, (ad.add (k * 4)).off + 1, none⟩ = some (.slice Av nv cv) ∧ w'.cell? ⟨(ad.add (k * 4)).block, (ad.add (k * 4)).off + 2, none⟩ = some (.int .i64 e.long) ∧ w'.cell? ⟨(ad.add (k * 4)).block, (ad.add (k * 4)).off + 3, none⟩ = some (.int .u32 (e.first : Int))) ∧ (w'.cell? (ad'.add (k * 4)) = some (.string tk) ∧ w'.cell? ⟨(ad'.add (k * 4)).block, (ad'.add (k * 4)).off + 1, none⟩ = some (.string tv) ∧ w'.cell? ⟨(ad'.add (k * 4)).block, (ad'.add (k * 4)).off + 2, none⟩ = some (.int .i64 e.long) ∧ w'.cell? ⟨(ad'.add (k * 4)).block, (ad'.add (k * 4)).off + 3, none⟩ = some (.int .u32 (e.first : Int))) := fun w' hw => ⟨(hl.below hw).cells, by have := (hr.below hw).cells; rw [htk, htv] at this; exact this⟩
          have HS := Lib.hid hS
          obtain ⟨L, hL⟩ : ∃ L, lLong e = L := ⟨_, rfl⟩
          rw [hL] at hcell hlong
          have hLL : ((L : Int) != (L : Int)) = false := by simp
          have hrd : RB w3 wr.drew := Below.drew hrr
          have hxd : RB w4 wr.drew := Below.drew hxr
          have k0 : (0 : Int) ≤ (k : Int) := by omega
          have k1 : (k : Int) < (m : Int) := by omega
          clear hS he hks hvs hL htk htv hl hr
          go_wp2_with fail
          go_region_held3 (fun w' => (w'.cell? (ad.add (k * 4)) = some (.slice Ak nk ck) ∧ w'.cell? ⟨(ad.add (k * 4)).block, (ad.add (k * 4)).off + 1, none⟩ = some (.slice Av nv cv) ∧ w'.cell? ⟨(ad.add (k * 4)).block, (ad.add (k * 4)).off + 2, none⟩ = some (.int .i64 e.long) ∧ w'.cell? ⟨(ad.add (k * 4)).block, (ad.add (k * 4)).off + 3, none⟩ = some (.int .u32 (e.first : Int))) ∧ (w'.cell? (ad'.add (k * 4)) = some (.string tk) ∧ w'.cell? ⟨(ad'.add (k * 4)).block, (ad'.add (k * 4)).off + 1, none⟩ = some (.string tv) ∧ w'.cell? ⟨(ad'.add (k * 4)).block, (ad'.add (k * 4)).off + 2, none⟩ = some (.int .i64 e.long) ∧ w'.cell? ⟨(ad'.add (k * 4)).block, (ad'.add (k * 4)).off + 3, none⟩ = some (.int .u32 (e.first : Int)))) (exact HS.out _ (by assumption)) (first | (go_at_call 35; refine (hcell _).mono ?_; rintro r wn ⟨rfl, hbn⟩; have hrn := RB.step (w0 := w3) hbn (by assumption); have hxn : RB w4 wn := RB.step (w0 := w4) hbn (by assumption)) | (go_at_call 36; refine (hlong _).mono ?_; rintro r wm ⟨rfl, hbm⟩; have hrm := RB.step (w0 := w3) hbm (by assumption); have hxm : RB w4 wm := RB.step (w0 := w4) hbm (by assumption)))
          go_wp2_with fail
          exact ⟨⟨k + 1, hlt, by go_num, hrm, hxm⟩, by simp [intOf]; omega⟩
        · obtain rfl : k = m := by omega
          have hsln := hsl4.below hxr
          go_wp2_with fail
          refine (hgetp _ _ hsln.lt').mono ?_
          rintro e w10 ⟨Ag, cg, csg, rfl, hGo, hGp, hb10⟩
          have hr10 := RB.step hb10 hrr
          have hG := hGp.ents hGo
          have hbz := hb3.trans (Below.mono hr10 hb3.size)
          have hsame := lsame_any w10 _ _ Ag _ cg Aw cw es hG (hRE.below hr10) (by omega)
          clear hgetp hsl4 hsln hxr hrr hGo hGp hb10 hr9 hx9
          go_wp2_with fail
          refine hsame.mono ?_
          rintro e w11 ⟨rfl, hb11⟩
          have hb12 := hbz.trans (hb11.mono hbz.size)
          clear hsame
          go_wp2_with fail
          go_ret
          exact ⟨rfl, hb12⟩
    · obtain ⟨E, hE1, hput, hrput⟩ := lputs_no w3 _ _ _ _ cl _ cw _ hE (Nat.le_refl _) hRE (Nat.le_refl _) (by omega) hsh S hgo
      have hEb : (E != 0) = true := by rcases hE1 with rfl | rfl <;> rfl
      have hEe : (E != E) = false := by simp
      clear hE1 hF
      go_wp2_with fail
      refine (hput _ hr0).mono ?_
      rintro e w4 ⟨rfl, hb4⟩
      have hr4 : RB w3 w4 := RB.step hb4 hr0
      go_wp2_with fail
      refine (hrput _ hr4).mono ?_
      rintro e w5 ⟨rfl, hb5⟩
      have hr5 := RB.step hb5 hr4
      have hcv := string_of_sl (P := Try.prog) Try.underlying23 Try.underlying5 Try.underlying9 (Sl.nil_ w5 0)
      clear hput hrput hr4 hb4 hb5 hgo
      go_wp2_with fail
      refine (hright _ hr5).mono ?_
      rintro e w6 ⟨rb, rfl, hrb, hb6⟩
      have hr6 := RB.step hb6 hr5
      clear hcv hb6 hr5
      go_wp2_with fail
      refine (hrright _ hr6).mono ?_
      rintro e w7 ⟨rb2, rfl, hrb2, hb7⟩
      obtain rfl : rb2 = rb := by
        cases rb <;> cases rb2
        · rfl
        · exact absurd (hrb.2 (hrb2.1 rfl)) (by simp)
        · exact absurd (hrb2.2 (hrb.1 rfl)) (by simp)
        · rfl
      have hr7 := RB.step hb7 hr6
      clear hb7 hr6 hrb2 hrb
      go_wp2_with fail
      refine (hfill _ hr7).mono ?_
      rintro e w8 ⟨rfl, hb8⟩
      have hr8 := RB.step hb8 hr7
      clear hb8 hr7
      go_wp2_with fail
      refine (hrfill _ hr8).mono ?_
      rintro e w9 ⟨rfl, hb9⟩
      have hr9 := RB.step hb9 hr8
      have hx9 : True := trivial
      clear hb9 hr8 hright hrright hfill hrfill
      go_wp2_with fail
      go_loopw [15] (fun i wr => ∃ k : Nat, k ≤ m ∧ i = .int .i64 (k : Int) ∧ RB w3 wr ∧ True) (fun i _ => m - (intOf i).toNat)
      case atStart => exact ⟨0, Nat.zero_le _, rfl, hr9, hx9⟩
      case round =>
        obtain ⟨k, hkm, rfl, hrr, hxr⟩ := hrel
        by_cases hlt : k < m
        · obtain ⟨e, ad, Ak, nk, ck, Av, nv, cv, he, ho, rfl, hl⟩ := hE.at_ hlt
          obtain ⟨e', ad', he', _, rfl, hr⟩ := hRE.at_ hlt
          rw [he] at he'
          cases he'
          have hs1 := hsh _ (List.mem_of_getElem? he)
          have hks := hl.2.2.2.2.2.1.len
          have hvs := hl.2.2.2.2.2.2.len
          have hcell := fun W => lcell_any W e Ak nk ck Av nv cv hks hvs (by omega) (by omega)
          have hlong := fun W => rlong_any W e (st e.key) (st e.val) (st_size _) (st_size _) hs1.1 hs1.2
          obtain ⟨tk, htk⟩ : ∃ t, st e.key = t := ⟨_, rfl⟩
          obtain ⟨tv, htv⟩ : ∃ t, st e.val = t := ⟨_, rfl⟩
          rw [htk, htv] at hlong
          have hS : ∀ w', RB w3 w' → (w'.cell? (ad.add (k * 4)) = some (.slice Ak nk ck) ∧ w'.cell? ⟨(ad.add (k * 4)).block, (ad.add (k * 4)).off + 1, none⟩ = some (.slice Av nv cv) ∧ w'.cell? ⟨(ad.add (k * 4)).block, (ad.add (k * 4)).off + 2, none⟩ = some (.int .i64 e.long) ∧ w'.cell? ⟨(ad.add (k * 4)).block, (ad.add (k * 4)).off + 3, none⟩ = some (.int .u32 (e.first : Int))) ∧ (w'.cell? (ad'.add (k * 4)) = some (.string tk) ∧ w'.cell? ⟨(ad'.add (k * 4)).block, (ad'.add (k * 4)).off + 1, none⟩ = some (.string tv) ∧ w'.cell? ⟨(ad'.add (k * 4)).block, (ad'.add (k * 4)).off + 2, none⟩ = some (.int .i64 e.long) ∧ w'.cell? ⟨(ad'.add (k * 4)).block, (ad'.add (k * 4)).off + 3, none⟩ = some (.int .u32 (e.first : Int))) := fun w' hw => ⟨(hl.below hw).cells, by have := (hr.below hw).cells; rw [htk, htv] at this; exact this⟩
          have HS := Lib.hid hS
          obtain ⟨L, hL⟩ : ∃ L, lLong e = L := ⟨_, rfl⟩
          rw [hL] at hcell hlong
          have hLL : ((L : Int) != (L : Int)) = false := by simp
          have hrd : RB w3 wr.drew := Below.drew hrr
          have hxd : True := trivial
          have k0 : (0 : Int) ≤ (k : Int) := by omega
          have k1 : (k : Int) < (m : Int) := by omega
          clear hS he hks hvs hL htk htv hl hr
          go_wp2_with fail
          go_region_held3 (fun w' => (w'.cell? (ad.add (k * 4)) = some (.slice Ak nk ck) ∧ w'.cell? ⟨(ad.add (k * 4)).block, (ad.add (k * 4)).off + 1, none⟩ = some (.slice Av nv cv) ∧ w'.cell? ⟨(ad.add (k * 4)).block, (ad.add (k * 4)).off + 2, none⟩ = some (.int .i64 e.long) ∧ w'.cell? ⟨(ad.add (k * 4)).block, (ad.add (k * 4)).off + 3, none⟩ = some (.int .u32 (e.first : Int))) ∧ (w'.cell? (ad'.add (k * 4)) = some (.string tk) ∧ w'.cell? ⟨(ad'.add (k * 4)).block, (ad'.add (k * 4)).off + 1, none⟩ = some (.string tv) ∧ w'.cell? ⟨(ad'.add (k * 4)).block, (ad'.add (k * 4)).off + 2, none⟩ = some (.int .i64 e.long) ∧ w'.cell? ⟨(ad'.add (k * 4)).block, (ad'.add (k * 4)).off + 3, none⟩ = some (.int .u32 (e.first : Int)))) (exact HS.out _ (by assumption)) (first | (go_at_call 35; refine (hcell _).mono ?_; rintro r wn ⟨rfl, hbn⟩; have hrn := RB.step (w0 := w3) hbn (by assumption); have hxn : True := trivial) | (go_at_call 36; refine (hlong _).mono ?_; rintro r wm ⟨rfl, hbm⟩; have hrm := RB.step (w0 := w3) hbm (by assumption); have hxm : True := trivial))
          go_wp2_with fail
          exact ⟨⟨k + 1, hlt, by go_num, hrm, hxm⟩, by simp [intOf]; omega⟩
        · obtain rfl : k = m := by omega
          go_wp2_with fail
          go_ret
          exact ⟨rfl, hb3.trans (Below.mono hrr hb3.size)⟩

end Go.Proofs.Ytmljfjmceakahaa
