/- FreedGathers. -/
import Derived.Test.YthmkmojlnfkfjaaFBrG
import Derived.Test.YthmkmojlnfkfjaaFRaws
namespace Go.Proofs.Ythmkmojlnfkfjaa
open Go.RowKit Go.Proofs.YthmkmojlnfkfjaaW.PrintWords Go.Proofs.Ythmkmojlnfkfjaa.PFreedGathers
set_option linter.unusedVariables false
set_option linter.unusedSimpArgs false

theorem fGa_len (ps : List FP) : (fGa ps).length ≤ ps.length := by rw [fGa_runs]; exact runs_len ps none
theorem fGa_pl (ps : List FP) : ∀ r ∈ fGa ps, r.2.length ≤ ps.length := by
  rw [fGa_runs]
  have key : ∀ (l : List FP) (o : Option Nat), ∀ r ∈ runs o l, r.2.length ≤ l.length := by
    intro l
    induction l with
    | nil => intro o r hr; simp [runs] at hr
    | cons p l ih =>
      intro o r hr
      unfold runs at hr
      split at hr
      · have := ih _ r hr; simp; omega
      · rcases List.mem_cons.1 hr with rfl | hr
        · have := (List.takeWhile_sublist (fun q : FP => q.1 == p.1) (l := l)).length_le
          simp
          omega
        · have := ih _ r hr; simp; omega
  exact key ps none

set_option maxRecDepth 100000 in
set_option maxHeartbeats 4000000 in
theorem freedGathers_law (w : World) (A0 : Option Addr) (n0 c0 : Nat) (rs : List FRc) (h0 : Recs w w.heap.size A0 n0 rs) (hc0 : Caps w A0 n0 c0 rs) (hok : FROk rs)
    (A : Option Addr) (n c : Nat) (ps : List FP) (h : Prs w w.heap.size A n ps) (hnc : n ≤ c) (hps : FPs ps) (hc : c ≤ 9223372036854775807) (N S : Int) (hN : N ≤ 9223372036854775807) (hN' : -9223372036854775808 ≤ N) :
    Calls Try.prog 7 #[.slice A0 n0 c0, .slice A n c, .int .i64 N, .int .i64 S] w fun e w' => e = .returned (.bool true) ∧ Below w.heap.size w w' := by
  have hlen := h.len
  go_enter Try.func7, Try.ntmps7
  go_wp2_with fail
  refine (awake10 w).mono ?_
  rintro e w1 ⟨rfl, hb1⟩
  have kp1 : ∀ p : Addr, p.block < w.heap.size → w1.cell? p = w.cell? p := fun p hp => hb1.cell hp
  have h01 := h0.keep kp1
  have hc1 := hc0.keep h0 kp1
  have hz1 := hb1.size
  clear kp1
  go_wp2_with fail
  refine (few_any w1 _ A0 n0 c0 rs h01 hc1).mono ?_
  rintro e w2 ⟨b, rfl, hfew, hb2'⟩
  have hb2 := hb1.trans (hb2'.mono hz1)
  have hz2 := hb2.size
  clear h01 hc1 hb2' hb1 hz1
  cases b with
  | false =>
    clear hfew
    go_wp2_with fail
    go_ret
    exact ⟨rfl, hb2⟩
  | true =>
    obtain ⟨hf1, hf2⟩ := hfew.out rfl
    clear hfew
    by_cases hn : 100 < n
    · have d1 : decide (100 < n) = true := decide_eq_true hn
      have d2 : decide ((100 : Int) < (n : Int)) = true := decide_eq_true (by omega)
      go_wp2_with fail
      go_ret
      exact ⟨rfl, hb2⟩
    have d1 : decide (100 < n) = false := decide_eq_false hn
    have d2 : decide ((100 : Int) < (n : Int)) = false := decide_eq_false (by omega)
    have h0l := h0.1
    have hn0 : n0 ≤ 10 := by omega
    have htot := rpAll_len rs 10 30 hf1 hf2
    have hft : (fFl rs).length ≤ 300 := by rw [fFl_length]; exact htot
    have hpl1 : ∀ r ∈ rs, r.2.length ≤ 30000000000000 := fun r hr => by have := hf2 r hr; omega
    have hpl2 : ∀ r ∈ rs, r.2.length ≤ 1000000000 := fun r hr => by have := hf2 r hr; omega
    have HP1 := Lib.hid hpl1
    have HP2 := Lib.hid hpl2
    have kp2 : ∀ p : Addr, p.block < w.heap.size → w2.cell? p = w.cell? p := fun p hp => hb2.cell hp
    have h02 := h0.keep kp2
    have hc2 := hc0.keep h0 kp2
    have h02 := h02.more hz2
    clear kp2 hf2 hpl1 hpl2
    go_wp2_with fail
    refine (records_any w2 A0 n0 c0 rs h02 hc2 (by omega) HP1.out).mono ?_
    rintro e w3 ⟨A1, c1, A2, c2, rfl, hC1, hl1, hC2, hl2, hb3'⟩
    have hR1 := recs_Rec (c := c1) hC1
    have hb3 := hb2.trans (hb3'.mono hz2)
    have hz3 := hb3.size
    clear h02 hc2 hb3'
    -- Flat
    go_wp2_with fail
    refine (fflat_any w3 _ A1 n0 c1 rs hR1 (Nat.le_refl _) (by omega) HP2.out (by omega)).mono ?_
    rintro e w4 ⟨Av, nv, cv, rfl, hnv, hown4, hb4'⟩
    obtain rfl := hnv.out
    have hp4 := Prs.of_own hown4
    have hC24 := Kd.C_below hC2 (hb4'.mono (Nat.le_refl _))
    have hb4 := hb3.trans (hb4'.mono hz3)
    have hz4 := hb4.size
    have hz34 := hb4'.size
    clear hown4
    go_wp2_with fail
    refine (rflat_any w4 A2 n0 c2 rs hC24 hl2 (by omega) (by omega)).mono ?_
    rintro e w5 ⟨A5, c5, rfl, hp5, hb5'⟩
    have hp45 := hp4.below hb5'
    have hb5 := hb4.trans (hb5'.mono hz4)
    have hz5 := hb5.size
    have hz45 := hb5'.size
    go_wp2_with fail
    refine (alike_any w5 _ _ Av A5 _ cv _ c5 _ _ hp45 hp5 hz45 (Nat.le_refl _) (by omega) (by omega) rfl).mono ?_
    rintro e w6 ⟨rfl, hb6'⟩
    have hb6 := hb5.trans (hb6'.mono hz5)
    have hz6 := hb6.size
    have hz56 := hb6'.size
    clear hp4 hp5 hp45 hC24
    -- Gather
    have h6 := h.below hb6
    go_wp2_with fail
    refine (pairs_any w6 _ A n c ps h6 hz6 (by omega)).mono ?_
    rintro e w7 ⟨A7, c7, rfl, hown7, hb7'⟩
    have hp7 := Prs.of_own hown7
    have hb7 := hb6.trans (hb7'.mono hz6)
    have hz7 := hb7.size
    have hz67 := hb7'.size
    clear hown7 h6
    go_wp2_with fail
    refine (fgather_any w7 _ A7 n c7 ps hp7 (Nat.le_refl _) (by omega)).mono ?_
    rintro e w8 ⟨A8, n8, c8, rfl, hr8, hcp8, hb8'⟩
    have hn8 := hr8.1
    have hb8 := hb7.trans (hb8'.mono hz7)
    have hz8 := hb8.size
    have hz78 := hb8'.size
    have h8 := h.below hb8
    clear hp7
    subst hn8
    have hg1 := fGa_len ps
    have HG2 := Lib.hid (fGa_pl ps)
    go_wp2_with fail
    refine (rgather_any w8 _ A n c ps h8 hnc (by omega)).mono ?_
    rintro e w9 ⟨A9, c9, rfl, hC9, hl9, hb9'⟩
    have kp9 : ∀ p : Addr, p.block < w8.heap.size → w9.cell? p = w8.cell? p := fun p hp => hb9'.cell hp
    have hC8 := C_Rec (hr8.keep kp9) (hcp8.keep hr8 kp9)
    rw [List.length_map] at hC8
    have hle8 := hcp8.1.1
    have hb9 := hb8.trans (hb9'.mono hz8)
    have hz9 := hb9.size
    have hz89 := hb9'.size
    clear kp9 h8 hr8 hcp8
    go_wp2_with fail
    refine (same_any w9 A8 A9 _ c8 c9 _ hC8 hle8 hC9 hl9 (by omega) (fun r hr => by have := HG2.out r hr; omega)).mono ?_
    rintro e wa ⟨rfl, hba'⟩
    have hba := hb9.trans (hba'.mono hz9)
    have hza := hba.size
    have hz9a := hba'.size
    clear hC8 hC9
    have hm1 := fun W => fmany_any W N S hN hN'
    have hm2 := fun W => rmany_any W N S hN hN'
    obtain ⟨M, hM⟩ : ∃ M, fMany N S = M := ⟨_, rfl⟩
    rw [hM] at hm1 hm2
    clear hM
    go_wp2_with fail
    refine (hm1 _).mono ?_
    rintro e w' ⟨rfl, rfl⟩
    clear hm1
    go_wp2_with fail
    refine (hm2 _).mono ?_
    rintro e w' ⟨rfl, rfl⟩
    clear hm2
    -- Right
    have hb3a : Below w3.heap.size w3 w' := ((((((hb4'.trans (hb5'.mono hz34)).trans (hb6'.mono (by omega))).trans (hb7'.mono (by omega))).trans (hb8'.mono (by omega))).trans (hb9'.mono (by omega))).trans (hba'.mono (by omega)))
    have hR1a := hR1.below hb3a
    have hC2a := Kd.C_below hC2 hb3a
    have hz3a := hb3a.size
    clear hb4' hb5' hb6' hb7' hb8' hb9' hba' hb3a hb3 hb4 hb5 hb6 hb7 hb8 hb9 hR1 hC1 hC2
    go_wp2_with fail
    refine (spright_any w' _ A1 n0 c1 rs hR1a hz3a hok (by omega) HP2.out (by omega) 4294967295).mono ?_
    rintro e wb ⟨bo, rfl, hbo, hbb'⟩
    have hbb := hba.trans (hbb'.mono hza)
    have hzb := hbb.size
    have hR1b := hR1a.below (hbb'.mono hz3a)
    have hC2b := Kd.C_below hC2a hbb'
    have hzab := hbb'.size
    cases bo with
    | false =>
      clear hbo
      go_wp2_with fail
      go_ret
      exact ⟨rfl, hbb⟩
    | true =>
      have hstr := (hbo.1 rfl).strict
      have hgf := fGa_flat rs hstr
      have HGF := Lib.hid hgf
      clear hbo hstr hgf hR1a hC2a hbb'
      go_wp2_with fail
      refine (fflat_any wb _ A1 n0 c1 rs hR1b (by omega) (by omega) HP2.out (by omega)).mono ?_
      rintro e wc ⟨Ac, nc, cc, rfl, hnc', hownc, hbc'⟩
      obtain rfl := hnc'.out
      have hpc := Prs.of_own hownc
      have hbc := hbb.trans (hbc'.mono hzb)
      have hzc := hbc.size
      have hC2c := Kd.C_below hC2b hbc'
      clear hownc hC2b hR1b
      go_wp2_with fail
      refine (fgather_any wc _ Ac _ cc _ hpc (Nat.le_refl _) (by omega)).mono ?_
      rintro e wd ⟨Ad, nd, cd, rfl, hrd, hcpd, hbd'⟩
      rw [HGF.out] at hrd hcpd
      obtain rfl : n0 = nd := h0l.symm.trans hrd.1
      have hCd := C_Rec hrd hcpd
      rw [List.length_map, h0l] at hCd
      have hbd := hbc.trans (hbd'.mono hzc)
      have hzd := hbd.size
      have hC2d := Kd.C_below hC2c hbd'
      have hled := hcpd.1.1
      clear hrd hcpd hpc hC2c
      go_wp2_with fail
      refine (same_any wd Ad A2 n0 cd c2 rs hCd hled hC2d hl2 (by omega) HP1.out).mono ?_
      rintro e we ⟨rfl, hbe'⟩
      have hbe := hbd.trans (hbe'.mono hzd)
      go_wp2_with fail
      go_ret
      exact ⟨rfl, hbe⟩

end Go.Proofs.Ythmkmojlnfkfjaa
