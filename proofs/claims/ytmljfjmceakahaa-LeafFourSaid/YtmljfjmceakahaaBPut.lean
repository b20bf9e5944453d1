/- branch.Put. -/
import Derived.Test.YtmljfjmceakahaaBranchP
import Derived.Test.YtmljfjmceakahaaBRight
namespace Go.Proofs.Ytmljfjmceakahaa
open Go.RowKit
set_option linter.unusedVariables false
set_option linter.unusedSimpArgs false

theorem own_at {w w1 : World} {base g : Nat} {e : TypeId} {size n : Nat} {v : Value} {xs : List Value} (h : w.ownsRow base e size v n xs) (hA : At g w w1) (hg : g < base) : w1.ownsRow base e size v n xs := by
  obtain ⟨h1, h2⟩ := h
  refine ⟨h1, ?_⟩
  rcases h2 with h2 | ⟨g', cap, cur, hv, hg', hh, r⟩
  · exact Or.inl h2
  · exact Or.inr ⟨g', cap, cur, hv, hg', (hA.block g' (blk_lt hh) (fun e => by injection e with e; omega)).trans hh, r⟩
theorem IsW.at_ {B : Nat} {w w1 : World} {g g0 : Nat} {l : List UInt8} (h : IsW B w g l) (hA : At g0 w w1) (hg : g0 < B) : IsW B w1 g l := by
  obtain ⟨h1, v, h2, h3⟩ := h
  exact ⟨h1, v, (hA.block g (blk_lt h2) (fun e => by injection e with e; omega)).trans h2, own_at h3 hA hg⟩

theorem cut_la {P : Program} (t e : TypeId) (kl : IntKind) {i : TypeInfo} (ht : P.underlying t = some (.slice e)) (hi : P.info? e = some i) (hsz : i.size = 1) (g n m : Nat) (hm : m < n) :
    ∀ W : World, (Instr.slice t (.slice (some ⟨g, 0, none⟩) n n) (some (.int kl (m : Int))) none none).run P W = .ok (.slice (some ⟨g, m, none⟩) (n - m) (n - m)) W := by
  intro W
  have hel : P.elem t = e := by simp [Program.elem, ht]
  have hu : P.underlying t = some (.slice (P.elem t)) := by rw [hel]; exact ht
  rw [run_slice_l W t _ n n hu kl (m : Int) (Int.natCast_nonneg _) (by omega), hel]
  have : ¬ n - m = 0 := by omega
  simp [sizeOf, typeInfo, hi, hsz, sliced, Result.andThen, Addr.add_lit]
  intro h
  omega

set_option maxRecDepth 100000 in
set_option maxHeartbeats 2000000 in
theorem bput_ok (w : World) (B : Nat) (A : Option Addr) (n c : Nat) (es : List (List UInt8 × Nat)) (h : Ents w B A n es) (hBw : B ≤ w.heap.size) (hn : n ≤ 1000) (size : Nat) (hR : BRight es (size : Int)) (hF : bFill es ≤ size) :
    Calls Try.prog 17 #[.slice A n c, .int .i64 (size : Int)] w fun e w' => ∃ g, e = .returned (.tuple #[.slice (some ⟨g, 0, none⟩) size size, .int .i64 0]) ∧ w.heap.size ≤ g ∧ RowB w' g (bPut es size) ∧ Below w.heap.size w w' := by
  obtain ⟨i0, hi0, hz0, hz1, hz2⟩ := info_parts info_u8
  have hinfo : (Try.prog.info? 5).map (·.size) = some 1 := by rw [hi0]; simp [hz1]
  have hs1 : 512 ≤ size := by have := hR.1; omega
  have hs2 : size ≤ 4096 := by have := hR.2.1; omega
  have hk96 : ∀ e ∈ es, e.1.length ≤ 96 := by
    intro e he
    obtain ⟨i, hi, rfl⟩ := List.getElem_of_mem he
    exact (hR.2.2.2.2 i hi es[i].1 es[i].2 (List.getElem?_eq_getElem hi)).2.1
  have hright : ∀ W, Below B w W → Calls Try.prog 20 #[.slice A n c, .int .i64 (size : Int)] W fun e w' => e = .returned (.bool true) ∧ Below W.heap.size W w' := fun W hW => by
    refine (bright_any W B A n c es (h.below hW) (Nat.le_trans hBw hW.size) (by omega) (size : Int)).mono ?_
    rintro e w' ⟨b, rfl, hb, hbl⟩
    rw [hb.2 hR]
    exact ⟨rfl, hbl⟩
  obtain ⟨F, hFF⟩ : ∃ F, bFill es = F := ⟨_, rfl⟩
  have hfill : ∀ W, Below B w W → Calls Try.prog 21 #[.slice A n c] W fun e w' => e = .returned (.int .i64 (F : Int)) ∧ Below W.heap.size W w' := fun W hW => by
    rw [← hFF]
    exact bfill_any W B A n c es (h.below hW) (Nat.le_trans hBw hW.size) (by omega) (fun e he => by have := hk96 e he; omega)
  rw [hFF] at hF
  have HFF := Lib.hid hFF
  have hs0 : (0 : Int) ≤ (size : Int) := by omega
  clear hFF hR
  go_enter Try.func17, Try.ntmps17
  go_wp2_with fail
  refine (hright w (Below.refl _ _)).mono ?_
  rintro e w1 ⟨rfl, hb1⟩
  go_wp2_with fail
  refine (hfill w1 (hb1.mono hBw)).mono ?_
  rintro e w2 ⟨rfl, hb2'⟩
  have hb2 := hb1.trans (hb2'.mono hb1.size)
  go_wp2_with (first
    | (at_make; refine wpList_make_bytes _ rfl _ _ _ rfl Try.underlying23 info_u8 _ _ _ rfl rfl (by omega) (by omega) ?_; intro w3 hr3 hb3'))
  refine (new_w _).mono ?_
  rintro e w4 ⟨rfl, hW4, hb4'⟩
  have hz2 := hb2.size
  have hz3 := hb3'.size
  have hz4 := hb4'.size
  have hb4 : Below w.heap.size w w4 := (hb2.trans (hb3'.mono hz2)).trans (hb4'.mono (by omega))
  have hr4 := hr3.below hb4' hr3.lt
  have hg0 := hr3.lt
  rw [Int.toNat_natCast] at hr4
  clear hb1 hb2' hr3
  go_wp2_with fail
  refine (num_i _ _ _ _ _ _ hW4 (by omega) (by omega) (by omega) (by omega) (by simp) hz4).mono ?_
  rintro e w5 ⟨rfl, hW5, hb5'⟩
  go_wp2_with fail
  refine (num_i _ _ _ _ _ _ hW5 (by omega) (by omega) (by omega) (by omega) (by simp [numB_length]) (Nat.le_trans hz4 hb5'.size)).mono ?_
  rintro e w6 ⟨rfl, hW6, hb6'⟩
  have hb46 := hb5'.trans hb6'
  go_wp2_with fail
  refine (num_i _ _ _ _ _ _ hW6 (by omega) (by omega) (by omega) (by omega) (by simp [numB_length]) (Nat.le_trans hz4 hb46.size)).mono ?_
  rintro e w7 ⟨rfl, hW7, hb7'⟩
  have hb47 := hb46.trans hb7'
  have hz7 := hb47.size
  have hb7 := hb4.trans (hb47.mono (by omega))
  have hr7 := hr4.below hb47 hg0
  have hW7' : IsW w3.heap.size w7 w3.heap.size (bPl es size 0) := by
    simpa [bPl, h.1] using hW7
  clear hW4 hW5 hW6 hW7 hb5' hb6' hb46 hb7' hb47 hr4 hright hfill
  go_wp2_with fail
  go_loopw [8, 38] (fun f i wr => ∃ k E : Nat, k ≤ n ∧ f = .int .i64 (E : Int) ∧ i = .int .i64 (k : Int) ∧ Hid (E + (bCells (es.take k)).length = size) ∧ E ≤ size ∧ IsW w3.heap.size wr w3.heap.size (bPl es size k) ∧ RowB wr w2.heap.size (List.replicate E 0 ++ bCells (es.take k)) ∧ Below w.heap.size w wr ∧ w7.heap.size ≤ wr.heap.size) (fun _ i _ => n - (intOf i).toNat)
  case atStart => exact ⟨0, size, Nat.zero_le _, rfl, rfl, Lib.hid (by simp [bCells]), Nat.le_refl _, hW7', by simpa [bCells] using hr7, hb7, Nat.le_refl _⟩
  case round =>
    obtain ⟨k, E, hkn, rfl, rfl, hE, hEs, hWp, hrw, hbw, hzw⟩ := hrel
    by_cases hlt : k < n
    · obtain ⟨ky, x, ad, Ak, nk, ck, he, hx, rfl, hB, a0, a1, hsl⟩ := (h.at_ hlt)
      have hbs := hbw.size
      have b0 := (hbw.cell (p := ad.add (k * 2)) (by rw [block_of_add]; omega)).trans a0
      have b1' := (hbw.cell (p := (ad.add (k * 2)).add 1) (by rw [block_of_add, block_of_add]; omega)).trans a1
      have b1 : wr.cell? ⟨(ad.add (k * 2)).block, (ad.add (k * 2)).off + 1, none⟩ = some (.int .u32 x) := b1'
      have hnk : nk ≤ 96 := by rw [← hsl.len]; exact hk96 _ (List.mem_of_getElem? he)
      have hstep : bCells (es.take (k + 1)) = bCell (ky, x) ++ bCells (es.take k) := by rw [take_succ_some he, bCells_snoc]
      have hfit : nk + 5 ≤ E := by
        have q1 := bCells_length (es.take (k + 1))
        have q2 := bFill_le es (k + 1)
        rw [HFF.out] at q2
        rw [hstep, List.length_append, bCell_length, List.length_take, h.1] at q1
        have q3 := hE.out
        simp only [hsl.len] at q1
        omega
      have hbx : (wr.alloc (.cells #[.slice Ak nk ck, .int .u32 x] 46)).heap[wr.heap.size]? = some (.cells #[.slice Ak nk ck, .int .u32 x] 46 (0, 0)) := heap_alloc_new wr _
      have hba : Below w.heap.size w (wr.alloc (.cells #[.slice Ak nk ck, .int .u32 x] 46)) := hbw.alloc hbs _
      have hWa : IsW w3.heap.size (wr.alloc (.cells #[.slice Ak nk ck, .int .u32 x] 46)) w3.heap.size (bPl es size k) := hWp.below ((Below.refl wr.heap.size wr).alloc (Nat.le_refl _) _)
      have hra : RowB (wr.alloc (.cells #[.slice Ak nk ck, .int .u32 x] 46)) w2.heap.size (List.replicate E 0 ++ bCells (es.take k)) := hrw.below ((Below.refl wr.heap.size wr).alloc (Nat.le_refl _) _) hrw.lt
      have HST := Lib.hid hstep
      clear a0 a1 b1' hstep he hWp hrw
      go_wp2_with fail
      obtain ⟨wa, hwa⟩ : ∃ wa, wr.alloc (.cells #[.slice Ak nk ck, .int .u32 x] 46) = wa := ⟨_, rfl⟩
      have hza : wa.heap.size = wr.heap.size + 1 := by rw [← hwa]; simp
      rw [hwa] at hbx hba hWa hra ⊢
      have hlbx : wr.heap.size < wa.heap.size := by omega
      clear hza
      have hzb := hba.size
      have hcell : ∀ W, Below wa.heap.size wa W → W.cell? ⟨wr.heap.size, 0, none⟩ = some (.slice Ak nk ck) ∧ W.cell? ⟨wr.heap.size, 1, none⟩ = some (.int .u32 x) := fun W hW => by
        have hb := blk_below hbx hW hlbx
        exact ⟨(blk_cell hb 0).trans rfl, (blk_cell hb 1).trans rfl⟩
      have hSl : ∀ W, Below wa.heap.size wa W → Sl W B Ak nk ck ky := fun W hW => hsl.below ((hba.mono hBw).trans (hW.mono (by omega)))
      refine (new_w wa).mono ?_
      rintro e wb ⟨rfl, hWb, hbb⟩
      obtain ⟨c0, c1⟩ := hcell wb hbb
      clear b0 b1 hwa
      go_wp2_with fail
      refine (num_i _ _ _ _ _ _ hWb (by omega) (by omega) (by omega) (by omega) (by simp) hbb.size).mono ?_
      rintro e wc ⟨rfl, hWc, hbc'⟩
      have hbc := hbb.trans hbc'
      obtain ⟨d0, d1⟩ := hcell wc hbc
      clear c0 c1 hWb hbc'
      go_wp2_with fail
      refine (raw_any _ _ _ _ hWc hbc.size _ _ _ _ _ (hSl wc hbc) (by simp [numB_length]; omega)).mono ?_
      rintro e wd ⟨rfl, hWd, hbd'⟩
      have hbd := hbc.trans hbd'
      obtain ⟨e0, e1⟩ := hcell wd hbd
      clear d0 d1 hWc hbd'
      go_wp2_with fail
      refine (num_i _ _ _ _ _ _ hWd (by omega) (by omega) (by omega) (by omega) (by simp [numB_length, hsl.len]; omega) hbd.size).mono ?_
      rintro e we ⟨rfl, hWe, hbe'⟩
      have hbe := hbd.trans hbe'
      clear e0 e1 hWd hbe'
      simp only [Int.toNat_natCast, List.nil_append] at hWe
      have hce : numB nk (Int.toNat 1) ++ ky ++ numB x (Int.toNat 4) = bCell (ky, x) := by simp [bCell, hsl.len]
      rw [hce] at hWe
      have hcl : (bCell (ky, x)).length = nk + 5 := by rw [bCell_length, hsl.len]
      obtain ⟨L, hL⟩ : ∃ L, nk + 5 = L := ⟨_, rfl⟩
      obtain ⟨E2, hE2⟩ : ∃ E2, E - L = E2 := ⟨_, rfl⟩
      obtain ⟨R, hR⟩ : ∃ R, size - E2 = R := ⟨_, rfl⟩
      have hsub : (E : Int) - (L : Int) = (E2 : Int) := by omega
      have hE2s : E2 < size := by omega
      have hLR : min L R = L := by omega
      have hcut := cut_la (P := Try.prog) 23 5 .i64 Try.underlying23 hi0 hz1 w2.heap.size size E2 hE2s
      rw [hR] at hcut
      rw [hL] at hcl
      have HL := Lib.hid hL
      have HE2 := Lib.hid hE2
      have HR := Lib.hid hR
      have hLb : L ≤ 101 := by omega
      have hLE : L ≤ E := by omega
      have HLR := Lib.hid hLR
      clear hL hE2 hR hLR hnk hfit
      have hxI : IntKind.u64.wrap (E2 : Int) = (E2 : Int) := IntWalk.u64_in _ (by omega)
      have hra2 := hra.below hbe (by have := hra.lt; omega)
      have hWa2 := hWa.below hbe
      have hze := hbe.size
      go_wp2_with fail
      refine (out_any _ _ _ _ hWe (by rw [hcl]; omega)).mono ?_
      rintro e wf ⟨A8, n8, c8, rfl, hown8, hbf⟩
      have hn8 := (Sl.of_own hown8).len
      rw [hcl] at hn8
      subst hn8
      have hrf := hra2.below hbf hra2.lt
      have hWf := hWa2.below hbf
      have hzf := hbf.size
      go_wp2_with (first | (refine wpList_copy_bytes rfl (.tmp 66) (.tmp 67) 23 23 rfl Try.underlying23 hinfo _ _ _ _ _ _ rfl rfl w2.heap.size E2 _ hrf _ _ (Sl.of_own hown8) (fun _ => rfl) (by rw [HLR.out, List.length_append, List.length_replicate]; have := HE2.out; omega) ?_; intro wg hrg hag))
      rw [HLR.out, show (bCell (ky, x)).take L = bCell (ky, x) from List.take_of_length_le (by rw [hcl]; exact Nat.le_refl _)] at hrg
      have hWg := hWf.at_ hag hg0
      have hzg := hag.size
      refine (num_i _ _ _ _ _ _ hWg (by omega) (by omega) (by omega) (by omega) (by rw [bPl_length]; omega) (by omega)).mono ?_
      rintro e wh ⟨rfl, hWh, hbh⟩
      have hsz2 : size - (bCells (es.take (k + 1))).length = E2 := by
        rw [HST.out, List.length_append, hcl]
        have := hE.out
        have := HE2.out
        omega
      have hEn : E2 + (bCells (es.take (k + 1))).length = size := by
        rw [HST.out, List.length_append, hcl]
        have := hE.out
        have := HE2.out
        omega
      rw [← HE2.out, ← hcl, splice_cell _ _ _ (by rw [hcl]; exact hLE), ← HST.out, hcl, HE2.out] at hrg
      simp only [Int.toNat_natCast] at hWh
      have hWn : IsW w3.heap.size wh w3.heap.size (bPl es size (k + 1)) := by
        rw [bPl_succ, hsz2]
        exact hWh
      have hrh := hrg.below hbh hg0
      have hbz : Below w.heap.size w wh := (((hba.trans (hbe.mono hzb)).trans (hbf.mono (by omega))).trans (hag.below hz2 (by omega))).trans (hbh.mono (by omega))
      have hzh := hbh.size
      have HEn := Lib.hid hEn
      clear hsz2 hEn hWh hrg hWg hWf hrf hra hra2 hWa hWa2 hcut hcell hSl
      go_wp2_with fail
      refine ⟨⟨k + 1, E2, hlt, by go_num, by go_num, HEn, by omega, hWn, hrh, hbz, by omega⟩, by simp [intOf]; omega⟩
    · obtain rfl : k = n := by omega
      have htk : es.take k = es := List.take_of_length_le (by rw [h.1]; exact Nat.le_refl _)
      rw [htk] at hE hrw
      have hzr := hbw.size
      have HWp := hWp
      go_wp2_with fail
      refine (out_any _ _ _ _ hWp (by rw [bPl_length]; omega)).mono ?_
      rintro e wf ⟨A8, n8, c8, rfl, hown8, hbf⟩
      have hn8 := (Sl.of_own hown8).len
      rw [bPl_length] at hn8
      have hrf := hrw.below hbf hrw.lt
      have hcl := bCells_length es
      have hfl := HFF.out
      rw [h.1] at hcl
      have hEq := hE.out
      have hn8E : n8 ≤ E := by omega
      have hn8s : min n8 size = n8 := by omega
      have HN := Lib.hid hn8
      have HS := Lib.hid hn8s
      have HC := Lib.hid hcl
      clear hn8 hn8s hcl hfl hEq
      go_wp2_with (first | (refine wpList_copy_bytes rfl (.tmp 74) (.tmp 76) 23 23 rfl Try.underlying23 hinfo _ _ _ _ _ _ rfl rfl w2.heap.size 0 _ hrf _ _ (Sl.of_own hown8) (fun _ => rfl) (by rw [HS.out, List.length_append, List.length_replicate]; omega) ?_; intro wg hrg hag))
      rw [HS.out, show (bPl es size k).take n8 = bPl es size k from List.take_of_length_le (by rw [bPl_length]; have := HN.out; omega), splice_places _ _ _ (by rw [bPl_length]; have := HN.out; omega)] at hrg
      go_ret2
      refine ⟨_, rfl, hz2, ?_, (hbw.trans (hbf.mono hzr)).trans (hag.below hz2 (by have := hbf.size; omega))⟩
      have hpage : bPl es size k ++ (List.replicate (E - (bPl es size k).length) 0 ++ bCells es) = bPut es size := by
        unfold bPut
        rw [h.1, List.append_assoc, bPl_length]
        have e1 : E - (4 + 2 * k) = size - bFill es := by have := hE.out; have := HC.out; omega
        rw [e1]
      rw [← hpage]
      exact hrg

theorem bput_arg (w : World) (B : Nat) (A : Option Addr) (n c : Nat) (es : List (List UInt8 × Nat)) (h : Ents w B A n es) (hBw : B ≤ w.heap.size) (hn : n ≤ 1000000) (S : Int) (hR : ¬ BRight es S) :
    Calls Try.prog 17 #[.slice A n c, .int .i64 S] w fun e w' => e = .returned (.tuple #[.slice none 0 0, .int .i64 1]) ∧ Below w.heap.size w w' := by
  go_enter Try.func17, Try.ntmps17
  go_wp2_with fail
  refine (bright_any w B A n c es h hBw hn S).mono ?_
  rintro e w1 ⟨b, rfl, hb, hb1⟩
  have hbf : b = false := by
    cases b with
    | false => rfl
    | true => exact absurd (hb.1 rfl) hR
  subst hbf
  clear hb
  go_wp2_with fail
  go_ret2
  exact ⟨rfl, hb1⟩

theorem bput_full (w : World) (B : Nat) (A : Option Addr) (n c : Nat) (es : List (List UInt8 × Nat)) (h : Ents w B A n es) (hBw : B ≤ w.heap.size) (hn : n ≤ 1000000) (S : Int) (hR : BRight es S) (hF : S < (bFill es : Int)) :
    Calls Try.prog 17 #[.slice A n c, .int .i64 S] w fun e w' => e = .returned (.tuple #[.slice none 0 0, .int .i64 21]) ∧ Below w.heap.size w w' := by
  have hk96 : ∀ e ∈ es, e.1.length ≤ 1000000 := by
    intro e he
    obtain ⟨i, hi, rfl⟩ := List.getElem_of_mem he
    have := (hR.2.2.2.2 i hi es[i].1 es[i].2 (List.getElem?_eq_getElem hi)).2.1
    omega
  obtain ⟨F, hFF⟩ : ∃ F, bFill es = F := ⟨_, rfl⟩
  have hfill : ∀ W, Below B w W → Calls Try.prog 21 #[.slice A n c] W fun e w' => e = .returned (.int .i64 (F : Int)) ∧ Below W.heap.size W w' := fun W hW => by
    rw [← hFF]
    exact bfill_any W B A n c es (h.below hW) (Nat.le_trans hBw hW.size) hn hk96
  rw [hFF] at hF
  go_enter Try.func17, Try.ntmps17
  go_wp2_with fail
  refine (bright_any w B A n c es h hBw hn S).mono ?_
  rintro e w1 ⟨b, rfl, hb, hb1⟩
  have hbt : b = true := hb.2 hR
  subst hbt
  clear hb hFF hR
  go_wp2_with fail
  refine (hfill w1 (hb1.mono hBw)).mono ?_
  rintro e w2 ⟨rfl, hb2'⟩
  have hb2 := hb1.trans (hb2'.mono hb1.size)
  clear hfill
  go_wp2_with fail
  go_ret2
  exact ⟨rfl, hb2⟩

end Go.Proofs.Ytmljfjmceakahaa
