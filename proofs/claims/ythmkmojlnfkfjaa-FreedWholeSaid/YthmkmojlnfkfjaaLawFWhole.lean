/- FreedWhole. -/
import Derived.Test.YthmkmojlnfkfjaaFBrW
import Derived.Test.YthmkmojlnfkfjaaFRaws
namespace Go.Proofs.Ythmkmojlnfkfjaa
open Go.RowKit Go.Proofs.YthmkmojlnfkfjaaW.PrintWords Go.Proofs.Ythmkmojlnfkfjaa.PFreedWhole
set_option linter.unusedVariables false
set_option linter.unusedSimpArgs false

theorem cmp_neg {p q : FP} : cmpP p q < 0 ↔ p.1 < q.1 ∨ (p.1 = q.1 ∧ p.2 < q.2) := by
  unfold cmpP cmpN
  by_cases h1 : p.1 < q.1
  · simp [h1]
  · by_cases h2 : q.1 < p.1
    · have h3 : p.1 ≠ q.1 := by omega
      simp [h1, h2, h3]
    · have h3 : p.1 = q.1 := by omega
      simp [h1, h2, h3]
      by_cases h4 : p.2 < q.2
      · simp [h4]
      · by_cases h5 : q.2 < p.2
        · simp [h4, h5]
        · simp [h4, h5]
theorem FRise.append {a b : List FP} (ha : FRise a) (hb : FRise b) (hab : ∀ p q, a.getLast? = some p → b[0]? = some q → cmpP p q < 0) : FRise (a ++ b) := fun i p q hp hq => by
  by_cases h1 : i + 1 < a.length
  · rw [List.getElem?_append_left (by omega)] at hp
    rw [List.getElem?_append_left h1] at hq
    exact ha i p q hp hq
  · by_cases h2 : i + 1 = a.length
    · rw [List.getElem?_append_left (by omega)] at hp
      rw [List.getElem?_append_right (by omega), h2, Nat.sub_self] at hq
      refine hab p q ?_ hq
      rw [List.getLast?_eq_getElem?, ← h2]
      exact hp
    · rw [List.getElem?_append_right (by omega)] at hp hq
      exact hb (i - a.length) p q hp (by rw [show i - a.length + 1 = i + 1 - a.length by omega]; exact hq)
theorem FRise.take {ps : List FP} (h : FRise ps) (k : Nat) : FRise (ps.take k) := fun i p q hp hq => by
  rw [List.getElem?_take] at hp hq
  split at hp
  · split at hq
    · exact h i p q hp hq
    · cases hq
  · cases hp
theorem FRise.drop {ps : List FP} (h : FRise ps) (k : Nat) : FRise (ps.drop k) := fun i p q hp hq => by
  rw [List.getElem?_drop] at hp hq
  exact h (k + i) p q hp hq
/-- Records that rise, each of rising pages. -/
def RsOk (rs : List FRc) : Prop := (∀ r ∈ rs, r.2 ≠ [] ∧ ∀ j x y, r.2[j]? = some x → r.2[j + 1]? = some y → x < y) ∧ ∀ i p q, rs[i]? = some p → rs[i + 1]? = some q → p.1 < q.1
theorem SpRight.ok {rs : List FRc} {e : Nat} (h : SpRight rs e) : RsOk rs :=
  ⟨fun r hr => by
    obtain ⟨i, hi, rfl⟩ := List.getElem_of_mem hr
    have hr := h i _ (List.getElem?_eq_getElem hi)
    exact ⟨hr.1, fun j x y hx hy => (hr.2.2 (j + 1) y hy).2.2.1 x (by omega) hx⟩, fun i p q hp hq => (h (i + 1) q hq).2.1 p (by omega) hp⟩
theorem rise_flat (rs : List FRc) : RsOk rs → FRise (fFl rs) := by
  induction rs with
  | nil => intro _ i p q hp; simp [fFl] at hp
  | cons r rs ih =>
    intro h
    have h2 : RsOk rs := ⟨fun x hx => h.1 x (by simp [hx]), fun i p q hp hq => h.2 (i + 1) p q hp hq⟩
    have e : fFl (r :: rs) = (r.2.map fun x => (r.1, x)) ++ fFl rs := by simp [fFl]
    rw [e]
    refine FRise.append (fun i p q hp hq => ?_) (ih h2) (fun p q hp hq => ?_)
    · rw [List.getElem?_map, Option.map_eq_some_iff] at hp hq
      obtain ⟨x, hx, rfl⟩ := hp
      obtain ⟨y, hy, rfl⟩ := hq
      exact cmp_neg.2 (.inr ⟨rfl, (h.1 r (by simp)).2 i x y hx hy⟩)
    · rw [List.getLast?_map, Option.map_eq_some_iff] at hp
      obtain ⟨x, _, rfl⟩ := hp
      cases rs with
      | nil => simp [fFl] at hq
      | cons r2 rs =>
        have hne := (h.1 r2 (by simp)).1
        obtain ⟨y, ys, hy⟩ : ∃ y ys, r2.2 = y :: ys := by
          cases hh : r2.2 with
          | nil => exact absurd hh hne
          | cons y ys => exact ⟨y, ys, rfl⟩
        have hq2 : q = (r2.1, y) := by
          simp only [fFl, List.flatMap_cons, hy, List.map_cons, List.cons_append, List.getElem?_cons_zero, Option.some.injEq] at hq
          exact hq.symm
        rw [hq2]
        exact cmp_neg.2 (.inl (h.2 0 r r2 rfl rfl))
theorem flat_ok {rs : List FRc} (h : FROk rs) : FPs (fFl rs) := fun p hp => by
  simp only [fFl, List.mem_flatMap, List.mem_map] at hp
  obtain ⟨r, hr, x, hx, rfl⟩ := hp
  exact ⟨(h r hr).1, (h r hr).2 x hx⟩
theorem take_next (ps : List FP) (i R : Nat) : ps.take ((i + 1) * R) = ps.take (i * R) ++ (ps.drop (i * R)).take R := by
  rw [Nat.succ_mul, List.take_add]
theorem fMany_small (N size : Nat) (h1 : 512 ≤ size) (h2 : size ≤ 4096) (hN : N ≤ 300) : ∃ M : Nat, fMany (N : Int) (size : Int) = (M : Int) ∧ M ≤ 8 ∧ N ≤ M * fRoom size := by
  have hr := fRoom_bounds (size := size) h1 h2
  unfold fMany
  split
  · rename_i h
    refine ⟨_, rfl, ?_, ?_⟩
    · rw [Int.toNat_natCast, Int.toNat_natCast]
      have : (N - 1) / fRoom size ≤ (N - 1) / 42 := Nat.div_le_div_left (by omega) (by omega)
      omega
    · rw [Int.toNat_natCast, Int.toNat_natCast]
      have h3 := Nat.lt_div_mul_add (show 0 < fRoom size by omega) (a := N - 1)
      rw [Nat.succ_mul]
      omega
  · rename_i h
    have : N = 0 := by omega
    exact ⟨0, rfl, by omega, by omega⟩

set_option maxRecDepth 100000 in
set_option maxHeartbeats 4000000 in
theorem freedWhole_law (w : World) (A0 : Option Addr) (n0 c0 : Nat) (rs : List FRc) (h0 : Recs w w.heap.size A0 n0 rs) (hc0 : Caps w A0 n0 c0 rs) (hok : FROk rs) (hn0 : n0 ≤ 4398046511103) (hpl : ∀ r ∈ rs, r.2.length ≤ 35184372088831) (more : Nat) (hmo : more < 256) (S : Int) :
    Calls Try.prog 8 #[.slice A0 n0 c0, .int .u8 (more : Int), .int .i64 S] w fun e w' => e = .returned (.bool true) ∧ Below w.heap.size w w' := by
  obtain ⟨ip, pi0, pz0, pz1, pz2⟩ := info_parts info_pair
  go_enter Try.func8, Try.ntmps8
  go_wp2_with fail
  refine (awake10 w).mono ?_
  rintro e w1 ⟨rfl, hb1⟩
  have kp1 : ∀ p : Addr, p.block < w.heap.size → w1.cell? p = w.cell? p := fun p hp => hb1.cell hp
  have h01 := h0.keep kp1
  have hc1 := hc0.keep h0 kp1
  have hz1 := hb1.size
  have HPL := Lib.hid hpl
  clear kp1 hpl
  go_wp2_with fail
  refine (few_any w1 _ A0 n0 c0 rs h01 hc1).mono ?_
  rintro e w2 ⟨b, rfl, hfew, hb2'⟩
  have hb2 := hb1.trans (hb2'.mono hz1)
  have hz2 := hb2.size
  have kp2 : ∀ p : Addr, p.block < w.heap.size → w2.cell? p = w.cell? p := fun p hp => hb2.cell hp
  have h02 := (h0.keep kp2).more hz2
  have hc2 := hc0.keep h0 kp2
  clear h01 hc1 hb2' hb1 hz1 kp2
  go_wp2_with fail
  refine (records_any w2 A0 n0 c0 rs h02 hc2 hn0 HPL.out).mono ?_
  rintro e w3 ⟨A1, c1, A2, c2, rfl, hC1, hl1, hC2, hl2, hb3'⟩
  have hR1 := recs_Rec (c := c1) hC1
  have hb3 := hb2.trans (hb3'.mono hz2)
  have hz3 := hb3.size
  have h0l := h0.1
  clear h02 hc2 hb3' hC1
  cases b with
  | false =>
    clear hfew
    go_wp2_with fail
    go_ret
    exact ⟨rfl, hb3⟩
  | true =>
    obtain ⟨hf1, hf2⟩ := hfew.out rfl
    clear hfew
    by_cases s1 : S < 512
    · have t1 : decide (S < 512) = true := decide_eq_true s1
      clear hf2
      go_wp2_with fail
      go_ret
      exact ⟨rfl, hb3⟩
    have t1 : decide (S < 512) = false := decide_eq_false s1
    by_cases s2 : 4096 < S
    · have t2 : decide (4096 < S) = true := decide_eq_true s2
      clear hf2
      go_wp2_with fail
      go_ret
      exact ⟨rfl, hb3⟩
    have t2 : decide (4096 < S) = false := decide_eq_false s2
    obtain ⟨size, rfl⟩ := Int.eq_ofNat_of_zero_le (show 0 ≤ S by omega)
    have hn10 : n0 ≤ 10 := by omega
    have htot := rpAll_len rs 10 30 hf1 hf2
    have hft : (fFl rs).length ≤ 300 := by rw [fFl_length]; exact htot
    have HP1 := Lib.hid (show ∀ r ∈ rs, r.2.length ≤ 30000000000000 from fun r hr => by have := hf2 r hr; omega)
    have HP2 := Lib.hid (show ∀ r ∈ rs, r.2.length ≤ 1000000000 from fun r hr => by have := hf2 r hr; omega)
    clear hf2
    go_wp2_with fail
    refine (spright_any w3 _ A1 n0 c1 rs hR1 (Nat.le_refl _) hok (by omega) HP2.out (by omega) 4294967295).mono ?_
    rintro e w4 ⟨bo, rfl, hbo, hb4'⟩
    have hb4 := hb3.trans (hb4'.mono hz3)
    have hz4 := hb4.size
    have hR4 := hR1.below hb4'
    have hC4 := Kd.C_below hC2 hb4'
    have hz34 := hb4'.size
    cases bo with
    | false =>
      clear hbo
      go_wp2_with fail
      go_ret
      exact ⟨rfl, hb4⟩
    | true =>
      have hsr := hbo.1 rfl
      have HGF := Lib.hid (fGa_flat rs hsr.strict)
      have HRI := Lib.hid (rise_flat rs hsr.ok)
      have HFO := Lib.hid (flat_ok hok)
      obtain ⟨M, hM, hM8, hMR⟩ := fMany_small (fFl rs).length size (by omega) (by omega) hft
      have hmany := fun W => fmany_any W ((fFl rs).length : Int) (size : Int) (by omega) (by omega)
      rw [hM] at hmany
      have HM := Lib.hid hM
      obtain ⟨d, hd⟩ : ∃ d, more % 4 = d := ⟨_, rfl⟩
      have hdl : d < 4 := by omega
      have hd1 : (more : Int).tmod 4 = (d : Int) := by rw [Int.tmod_eq_emod_of_nonneg (by omega)]; omega
      have hd2 : (more : Int) % 4 = (d : Int) := by omega
      have hw2 : IntKind.i64.wrap ((M : Int) + (d : Int)) = (M : Int) + (d : Int) := IntWalk.i64_in _ (by omega)
      clear hbo hsr hM hd hR1 hC2
      go_wp2_with fail
      refine (fflat_any w4 _ A1 n0 c1 rs hR4 (by omega) (by omega) HP2.out (by omega)).mono ?_
      rintro e w5 ⟨Av, nv, cv, rfl, hnv, hown5, hb5'⟩
      obtain rfl := hnv.out
      have hp5 := Prs.of_own hown5
      have hC5 := Kd.C_below hC4 hb5'
      have hb5 := hb4.trans (hb5'.mono hz4)
      have hz5 := hb5.size
      clear hown5 hR4 hC4
      go_wp2_with fail
      refine (hmany _).mono ?_
      rintro e w' ⟨rfl, rfl⟩
      clear hmany
      go_wp2_with fail
      obtain ⟨K, hK⟩ : ∃ K, M + d = K := ⟨_, rfl⟩
      have hKi : (M : Int) + (d : Int) = (K : Int) := by omega
      have hK12 : K ≤ 12 := by omega
      have hKR : (fFl rs).length ≤ K * fRoom size := Nat.le_trans hMR (Nat.mul_le_mul_right _ (by omega))
      refine (fspread_any w' _ Av _ cv (fFl rs) hp5 (Nat.le_refl _) (by omega) ((M : Int) + (d : Int)) (size : Int)).mono ?_
      rintro e w6 ⟨hb6', hcase⟩
      rw [hKi] at hcase
      rcases hcase with ⟨hno, _⟩ | ⟨_, hq, _⟩ | ⟨_, _, As, cs', css, rfl, hown6, hrows⟩
      · exact absurd ⟨by omega, by omega, by omega, by omega⟩ hno
      · rw [HM.out] at hq
        omega
      rw [Int.toNat_natCast, Int.toNat_natCast] at hrows
      rw [Int.toNat_natCast] at hown6 ⊢
      have hR6 := Reads.of_own hown6
      have hC6 := Kd.C_below hC5 hb6'
      have hb6 := hb5.trans (hb6'.mono hz5)
      have hz6 := hb6.size
      obtain ⟨r1, r2, r3⟩ := fRoom_bounds (size := size) (by omega) (by omega)
      obtain ⟨R, hR⟩ : ∃ R, fRoom size = R := ⟨_, rfl⟩
      rw [hR] at hrows hKR r1 r2 r3
      have HR := Lib.hid hR
      have hKi2 : ((K : Int) == (M : Int) + (d : Int)) = true := by simp; omega
      have HRW := Lib.hid hrows
      clear hR hrows hown6 hp5 hC5 hd1 hd2
      go_wp2_with fail
      go_loopw [15, 16] (fun v i wr => ∃ (k : Nat) (Ax : Option Addr) (nx cx : Nat), k ≤ K ∧ i = .int .i64 (k : Int) ∧ v = .slice Ax nx cx ∧ Hid (nx = ((fFl rs).take (k * R)).length) ∧ wr.ownsRow w6.heap.size 51 2 (.slice Ax nx cx) nx (PCs ((fFl rs).take (k * R))) ∧ Below w6.heap.size w6 wr) (fun _ i _ => K - (intOf i).toNat)
      case atStart => exact ⟨0, none, 0, 0, Nat.zero_le _, rfl, rfl, Lib.hid (by simp), by simpa [PCs] using World.ownsRow_nil _ _ _ _, Below.refl _ _⟩
      case round =>
        obtain ⟨k, Ax, nx, cx, hk, rfl, rfl, hnx, hown, hbw⟩ := hrel
        have hbs := hbw.size
        have hbww := hb6.trans (hbw.mono hz6)
        have hnx3 : nx ≤ 300 := by have := hnx.out; rw [List.length_take] at this; omega
        by_cases hlt : k < K
        · obtain ⟨Ai, ni, gi, pi⟩ := HRW.out.2 k hlt
          obtain ⟨row, hrow⟩ : ∃ row, ((fFl rs).drop (k * R)).take R = row := ⟨_, rfl⟩
          rw [hrow] at pi
          have hrl : row.length = ni := pi.len
          have hrR : ni ≤ R := by rw [← hrl, ← hrow, List.length_take]; omega
          have hfr : FRight row (size : Int) := ⟨by omega, by omega, by rw [Int.toNat_natCast, HR.out]; omega, by rw [← hrow]; exact (HRI.out.drop _).take _⟩
          have hrok : FPs row := fun p hp => HFO.out p (by rw [← hrow] at hp; exact List.mem_of_mem_drop (List.mem_of_mem_take hp))
          obtain ⟨ads, rfl, hadb, hcs⟩ := hR6.2 (by omega)
          have k0 : wr.cell? (ads.add k) = some (.slice Ai ni ni) := (hbw.cell (p := ads.add k) (by rw [block_of_add]; exact hadb)).trans (hcs k _ gi)
          have hpr := pi.below hbw
          have HPG := Lib.hid (fPage_put (next := k + 1) (size := size) hrok (by omega) hfr)
          have hpl : (fPut row (k + 1) size).length = size := fPut_length _ _ _ (by rw [hrl]; omega)
          have HNX := Lib.hid (show PCs ((fFl rs).take ((k + 1) * R)) = PCs ((fFl rs).take (k * R)) ++ PCs row from by rw [take_next, hrow, PCs_append])
          have HLX := Lib.hid (show nx + ni = ((fFl rs).take ((k + 1) * R)).length from by rw [take_next, hrow, List.length_append, ← hnx.out, hrl])
          have HFR := Lib.hid hfr
          have HOK := Lib.hid hrok
          have HPL := Lib.hid hpl
          have HRL := Lib.hid hrl
          have hcw : IntKind.u32.wrap ((k : Int) + 1) = ((k + 1 : Nat) : Int) := by rw [IntWalk.u32_in _ (by omega)]; rfl
          have hcw2 : ((k : Int) + 1) % 4294967296 = ((k + 1 : Nat) : Int) := by omega
          clear hcs gi pi hrow hfr hrok hpl hnx hrl
          go_wp2_with fail
          have hput := fput_is wr _ Ai ni ni row hpr hbs HOK.out (by omega) (k + 1) (by omega) size HFR.out
          rw [show ((k + 1 : Nat) : Int) = (k : Int) + 1 from rfl] at hput
          refine hput.mono ?_
          rintro e w7 ⟨g, rfl, hg, hrow7, hb7'⟩
          have hs7 := hrow7.slN (n := size) HPL.out (by omega)
          have hown7 := own_below hown hb7' (Nat.le_refl _)
          have hb7 := hbw.trans (hb7'.mono hbs)
          have hbs7 := hb7.size
          clear hput hown hpr k0 hcw hcw2 hrow7
          go_wp2_with fail
          have hget := fget_is w7 _ _ size size _ hs7 (Nat.le_refl _) (by omega) HPG.out
          rw [HRL.out] at hget
          refine hget.mono ?_
          rintro e w8 ⟨A8, c8, rfl, hown8, hb8'⟩
          have hrd8 := Reads.of_own hown8
          have hown9 := own_below hown7 hb8' (Nat.le_refl _)
          have hb8 := hb7.trans (hb8'.mono hbs7)
          have hbs8 := hb8.size
          have hn1 : (((k + 1 : Nat) : Int) != (k : Int) + 1) = false := by simp
          have hn2 : (((k : Int) + 1) != (k : Int) + 1) = false := by simp
          clear hget hown7 hown8 hs7
          go_wp2_with (first
            | (at_builtin; refine wpList_append_any _ rfl (.tmp 108) (.tmp 109) _ rfl w6.heap.size 51 ip _ 2 16 Try.underlying28 pi0 pz0 pz1 pz2 rfl (by omega) (.slice Ax nx cx) nx _ rfl hown9 w8.heap.size A8 ni c8 (PCs row) rfl hrd8 (PCs_one row) (by unfold maxLen; omega) (by omega) (by omega) ?_; intro v9 w9 hown10 hg9 hat9; obtain ⟨A9, c9, rfl⟩ := own_slice hown10))
          exact ⟨⟨k + 1, A9, nx + ni, c9, by omega, by go_num, rfl, HLX, by rw [HNX.out]; exact hown10, hb8.grown hg9 hbs8 (fun q hq => own_base hown9 q hq)⟩, by simp [intOf]; omega⟩
        · obtain rfl : k = K := by omega
          have htk : (fFl rs).take (k * R) = fFl rs := List.take_of_length_le hKR
          rw [htk] at hown hnx
          have hp := Prs.of_own hown
          have hnl := hnx.out
          subst hnl
          have hC7 := Kd.C_below hC6 hbw
          clear hown hnx htk
          go_wp2_with fail
          refine (fgather_any wr _ Ax _ cx _ hp (Nat.le_refl _) (by omega)).mono ?_
          rintro e w7 ⟨Ad, nd, cd, rfl, hrd, hcpd, hbd'⟩
          rw [HGF.out] at hrd hcpd
          obtain rfl : n0 = nd := h0l.symm.trans hrd.1
          have hCd := C_Rec hrd hcpd
          rw [List.length_map, h0l] at hCd
          have hbd := hbww.trans (hbd'.mono hbww.size)
          have hzd := hbd.size
          have hC8 := Kd.C_below hC7 hbd'
          have hled := hcpd.1.1
          clear hrd hcpd hp hC7
          go_wp2_with fail
          refine (same_any w7 Ad A2 n0 cd c2 rs hCd hled hC8 hl2 (by omega) HP1.out).mono ?_
          rintro e w8 ⟨rfl, hbe'⟩
          have hbe := hbd.trans (hbe'.mono hzd)
          go_wp2_with fail
          go_ret
          exact ⟨rfl, hbe⟩

end Go.Proofs.Ythmkmojlnfkfjaa
