/- leaf: Entry.cell, Put. -/
import Derived.Test.YtmljfjmceakahaaLeafP
import Derived.Test.YtmljfjmceakahaaLRight
namespace Go.Proofs.Ytmljfjmceakahaa
open Go.RowKit
set_option linter.unusedVariables false
set_option linter.unusedSimpArgs false

set_option maxRecDepth 100000 in
set_option maxHeartbeats 1000000 in
/-- An entry's cell, of an entry that may be. -/
theorem lcellb_any (w : World) (B : Nat) (ad : Addr) (e : LE) (Ak : Option Addr) (nk ck : Nat) (Av : Option Addr) (nv cv : Nat) (hk : Sl w B Ak nk ck e.key) (hv : Sl w B Av nv cv e.val) (hBw : B ≤ w.heap.size) (ho : e.ok) (S : Int) (hS : S ≤ 4096) (hok : LOk e S) :
    Calls Try.prog 55 #[lVal e Ak nk ck Av nv cv] w fun r w' => ∃ A n c, r = .returned (.slice A n c) ∧ w'.ownsRow w.heap.size 5 1 (.slice A n c) n (bv (lCell e)) ∧ Below w.heap.size w w' := by
  have hb0 : Below w.heap.size w (w.alloc (lObj e Ak nk ck Av nv cv)) := (Below.refl _ _).alloc (Nat.le_refl _) _
  have hq0 := heap_alloc_new w (lObj e Ak nk ck Av nv cv)
  have hks := hk.len
  have hvs := hv.len
  obtain ⟨ok1, ok2, ok3, ok4⟩ := hok
  rw [hks] at ok1 ok2
  have hcl := lCell_length e
  obtain ⟨C, hC⟩ : ∃ C, lCell e = C := ⟨_, rfl⟩
  rw [hC] at hcl ⊢
  have HC := Lib.hid hC
  have hLl : lLong e ≤ 2000 := by omega
  have hkB := hk.below ((Below.refl B w).alloc hBw (lObj e Ak nk ck Av nv cv))
  have hvB := hv.below ((Below.refl B w).alloc hBw (lObj e Ak nk ck Av nv cv))
  have hof := ho.1
  by_cases hf : 0 < e.first
  · rw [if_pos hf] at ok4
    have d4 : decide ((0 : Int) < (e.first : Int)) = true := decide_eq_true (by omega)
    obtain ⟨o1, o2, o3⟩ := ok4
    have HF := Lib.hid hf
    clear hC hcl hf
    go_enter Try.func55, Try.ntmps55
    go_wp2_with fail
    obtain ⟨W, hW⟩ : ∃ W, w.alloc (lObj e Ak nk ck Av nv cv) = W := ⟨_, rfl⟩
    rw [hW] at hb0 hq0 hkB hvB ⊢
    clear hW
    refine (new_w W).mono ?_
    rintro r w1 ⟨rfl, hW1, hb1⟩
    obtain ⟨c0, c1, c2, c3⟩ := cell4 (blk_below hq0 hb1 (blk_lt hq0))
    have hBW : B ≤ W.heap.size := Nat.le_trans hBw hb0.size
    go_wp2_with fail
    refine (num_i _ _ _ _ _ _ hW1 (by omega) (by omega) (by omega) (by omega) (by simp) hb1.size).mono ?_
    rintro r w2 ⟨rfl, hW2, hb2'⟩
    have hb2 := hb1.trans hb2'
    obtain ⟨c0, c1, c2, c3⟩ := cell4 (blk_below hq0 hb2 (blk_lt hq0))
    clear hb1 hb2' hW1
    go_wp2_with fail
    refine (raw_any _ _ _ _ hW2 hb2.size _ _ _ _ _ (hkB.below (hb2.mono hBW)) (by simp [numB_length]; omega)).mono ?_
    rintro r w3 ⟨rfl, hW3, hb3'⟩
    have hb3 := hb2.trans hb3'
    obtain ⟨c0, c1, c2, c3⟩ := cell4 (blk_below hq0 hb3 (blk_lt hq0))
    clear hb2 hb3' hW2
    go_wp2_with fail
    refine (num_i _ _ _ _ _ _ hW3 (by omega) (by omega) (by omega) (by omega) (by simp [numB_length]; omega) hb3.size).mono ?_
    rintro r w4 ⟨rfl, hW4, hb4'⟩
    have hb4 := hb3.trans hb4'
    obtain ⟨c0, c1, c2, c3⟩ := cell4 (blk_below hq0 hb4 (blk_lt hq0))
    have hlw : IntKind.u64.wrap e.long = e.long := IntWalk.u64_in _ (by omega)
    clear hb3 hb4' hW3
    go_wp2_with fail
    refine (num_i _ _ _ _ _ _ hW4 (by omega) (by omega) (by omega) (by omega) (by simp [numB_length]; omega) hb4.size).mono ?_
    rintro r w5 ⟨rfl, hW5, hb5'⟩
    have hb5 := hb4.trans hb5'
    obtain ⟨c0, c1, c2, c3⟩ := cell4 (blk_below hq0 hb5 (blk_lt hq0))
    clear hb4 hb5' hW4
    go_wp2_with fail
    refine (num_i _ _ _ _ _ _ hW5 (by omega) (by omega) (by omega) (by omega) (by simp [numB_length]; omega) hb5.size).mono ?_
    rintro r w6 ⟨rfl, hW6, hb6'⟩
    have hb6 := hb5.trans hb6'
    clear hb5 hb6' hW5
    have hEq : (((([] ++ numB (Int.toNat (nk : Int)) (Int.toNat 1) ++ e.key) ++ numB (Int.toNat 1) (Int.toNat 1)) ++ numB e.long.toNat (Int.toNat 4)) ++ numB (Int.toNat (e.first : Int)) (Int.toNat 4) : List UInt8) = C := by
      rw [← HC.out]
      simp [lCell, lTail, HF.out, hks]
    rw [hEq] at hW6
    clear hEq
    go_wp2_with fail
    refine (out_any _ _ _ _ hW6 (by rw [← HC.out, lCell_length]; omega)).mono ?_
    rintro r w7 ⟨A7, n7, c7, rfl, hown7, hb7'⟩
    have hb7 := hb6.trans (hb7'.mono hb6.size)
    go_wp2_with fail
    go_ret
    exact ⟨_, _, _, rfl, own_weaken hown7 (Nat.le_trans hb0.size hb6.size), hb0.trans (hb7.mono hb0.size)⟩
  · clear ok4
    have d4 : decide ((0 : Int) < (e.first : Int)) = false := decide_eq_false (by omega)
    have hvl : nv ≤ 2000 := by have : lLong e = 4 + e.key.length + e.val.length := if_neg hf
                               omega
    have HF := Lib.hid hf
    clear hC hcl hf
    go_enter Try.func55, Try.ntmps55
    go_wp2_with fail
    obtain ⟨W, hW⟩ : ∃ W, w.alloc (lObj e Ak nk ck Av nv cv) = W := ⟨_, rfl⟩
    rw [hW] at hb0 hq0 hkB hvB ⊢
    clear hW
    refine (new_w W).mono ?_
    rintro r w1 ⟨rfl, hW1, hb1⟩
    obtain ⟨c0, c1, c2, c3⟩ := cell4 (blk_below hq0 hb1 (blk_lt hq0))
    have hBW : B ≤ W.heap.size := Nat.le_trans hBw hb0.size
    go_wp2_with fail
    refine (num_i _ _ _ _ _ _ hW1 (by omega) (by omega) (by omega) (by omega) (by simp) hb1.size).mono ?_
    rintro r w2 ⟨rfl, hW2, hb2'⟩
    have hb2 := hb1.trans hb2'
    obtain ⟨c0, c1, c2, c3⟩ := cell4 (blk_below hq0 hb2 (blk_lt hq0))
    clear hb1 hb2' hW1
    go_wp2_with fail
    refine (raw_any _ _ _ _ hW2 hb2.size _ _ _ _ _ (hkB.below (hb2.mono hBW)) (by simp [numB_length]; omega)).mono ?_
    rintro r w3 ⟨rfl, hW3, hb3'⟩
    have hb3 := hb2.trans hb3'
    obtain ⟨c0, c1, c2, c3⟩ := cell4 (blk_below hq0 hb3 (blk_lt hq0))
    clear hb2 hb3' hW2
    go_wp2_with fail
    refine (num_i _ _ _ _ _ _ hW3 (by omega) (by omega) (by omega) (by omega) (by simp [numB_length]; omega) hb3.size).mono ?_
    rintro r w4 ⟨rfl, hW4, hb4'⟩
    have hb4 := hb3.trans hb4'
    obtain ⟨c0, c1, c2, c3⟩ := cell4 (blk_below hq0 hb4 (blk_lt hq0))
    clear hb3 hb4' hW3
    go_wp2_with fail
    refine (num_i _ _ _ _ _ _ hW4 (by omega) (by omega) (by omega) (by omega) (by simp [numB_length]; omega) hb4.size).mono ?_
    rintro r w5 ⟨rfl, hW5, hb5'⟩
    have hb5 := hb4.trans hb5'
    obtain ⟨c0, c1, c2, c3⟩ := cell4 (blk_below hq0 hb5 (blk_lt hq0))
    clear hb4 hb5' hW4
    go_wp2_with fail
    refine (raw_any _ _ _ _ hW5 hb5.size _ _ _ _ _ (hvB.below (hb5.mono hBW)) (by simp [numB_length]; omega)).mono ?_
    rintro r w6 ⟨rfl, hW6, hb6'⟩
    have hb6 := hb5.trans hb6'
    clear hb5 hb6' hW5
    have hEq : (((([] ++ numB (Int.toNat (nk : Int)) (Int.toNat 1) ++ e.key) ++ numB (Int.toNat 0) (Int.toNat 1)) ++ numB (Int.toNat (nv : Int)) (Int.toNat 2)) ++ e.val : List UInt8) = C := by
      rw [← HC.out]
      simp [lCell, lTail, HF.out, hks, hvs]
    rw [hEq] at hW6
    clear hEq
    go_wp2_with fail
    refine (out_any _ _ _ _ hW6 (by rw [← HC.out, lCell_length]; omega)).mono ?_
    rintro r w7 ⟨A7, n7, c7, rfl, hown7, hb7'⟩
    have hb7 := hb6.trans (hb7'.mono hb6.size)
    go_wp2_with fail
    go_ret
    exact ⟨_, _, _, rfl, own_weaken hown7 (Nat.le_trans hb0.size hb6.size), hb0.trans (hb7.mono hb0.size)⟩

set_option maxRecDepth 100000 in
set_option maxHeartbeats 2000000 in
theorem lput_ok (w : World) (B : Nat) (A : Option Addr) (n c : Nat) (es : List LE) (h : LEnts w B A n es) (hBw : B ≤ w.heap.size) (hn : n ≤ 1000) (size : Nat) (hR : LRight es (size : Int)) (hF : lFill es ≤ size) :
    Calls Try.prog 29 #[.slice A n c, .int .i64 (size : Int)] w fun e w' => ∃ g, e = .returned (.tuple #[.slice (some ⟨g, 0, none⟩) size size, .int .i64 0]) ∧ w.heap.size ≤ g ∧ RowB w' g (lPut es size) ∧ Below w.heap.size w w' := by
  obtain ⟨i0, hi0, hz0, hz1, hz2⟩ := info_parts info_u8
  have hinfo : (Try.prog.info? 5).map (·.size) = some 1 := by rw [hi0]; simp [hz1]
  have hs1 : 512 ≤ size := by have := hR.1; omega
  have hs2 : size ≤ 4096 := by have := hR.2.1; omega
  have hok : ∀ e ∈ es, LOk e (size : Int) := by
    intro e he
    obtain ⟨i, hi, rfl⟩ := List.getElem_of_mem he
    exact (hR.2.2 i hi es[i] (List.getElem?_eq_getElem hi)).1
  have hlong : ∀ e ∈ es, lLong e ≤ 1021 := fun e he => by have := (hok e he).2.2.1; omega
  have hsh : LSh es := fun e he => by
    have h1 := hlong e he
    have h2 := (hok e he).2.1
    have h3 := (hok e he).2.2.2
    unfold lLong at h1
    refine ⟨by omega, ?_⟩
    split at h1
    · rename_i hf
      rw [if_pos hf] at h3
      omega
    · omega
  have hright : ∀ W, Below B w W → Calls Try.prog 31 #[.slice A n c, .int .i64 (size : Int)] W fun e w' => e = .returned (.bool true) ∧ Below W.heap.size W w' := fun W hW => by
    refine (lright_any W B A n c es (h.below hW) (Nat.le_trans hBw hW.size) (by omega) (fun e he => (hsh e he).2) (fun e he => by have := (hsh e he).1; omega) (size : Int)).mono ?_
    rintro e w' ⟨b, rfl, hb, hbl⟩
    rw [hb.2 hR]
    exact ⟨rfl, hbl⟩
  obtain ⟨F, hFF⟩ : ∃ F, lFill es = F := ⟨_, rfl⟩
  have hfill : ∀ W, Below B w W → Calls Try.prog 33 #[.slice A n c] W fun e w' => e = .returned (.int .i64 (F : Int)) ∧ Below W.heap.size W w' := fun W hW => by
    rw [← hFF]
    exact lfill_any W B A n c es (h.below hW) (Nat.le_trans hBw hW.size) (by omega) hsh
  rw [hFF] at hF
  obtain ⟨cs, hcs⟩ : ∃ cs, es.map lCell = cs := ⟨_, rfl⟩
  have hcl : cs.length = n := by rw [← hcs, List.length_map, h.1]
  have hFp : F = pFill cs := by rw [← hFF, lFill_p, hcs]
  have hput : lPut es size = pPut 1 cs size := by rw [lPut, hcs]
  rw [hput]
  have HFF := Lib.hid hFp.symm
  have HCS := Lib.hid hcs
  have HCL := Lib.hid hcl
  have hs0 : (0 : Int) ≤ (size : Int) := by omega
  clear hFF hR hFp hput hcs hcl hsh
  go_enter Try.func29, Try.ntmps29
  go_wp2_with fail
  refine (hright w (Below.refl _ _)).mono ?_
  rintro e w1 ⟨rfl, hb1⟩
  go_wp2_with fail
  refine (hfill w1 (hb1.mono hBw)).mono ?_
  rintro e w2 ⟨rfl, hb2'⟩
  have hb2 := hb1.trans (hb2'.mono hb1.size)
  go_wp2_with (first
    | (at_make; refine wpList_make_bytes _ rfl _ _ _ rfl Try.underlying23 info_u8 _ _ _ rfl rfl (by omega) (by omega) ?_; intro w3 hr3 hb3'))
  refine (new_w _).mono ?_
  rintro e w4 ⟨rfl, hW4, hb4'⟩
  have hz2 := hb2.size
  have hz3 := hb3'.size
  have hz4 := hb4'.size
  have hb4 : Below w.heap.size w w4 := (hb2.trans (hb3'.mono hz2)).trans (hb4'.mono (by omega))
  have hr4 := hr3.below hb4' hr3.lt
  have hg0 := hr3.lt
  rw [Int.toNat_natCast] at hr4
  clear hb1 hb2' hr3
  go_wp2_with fail
  refine (num_i _ _ _ _ _ _ hW4 (by omega) (by omega) (by omega) (by omega) (by simp) hz4).mono ?_
  rintro e w5 ⟨rfl, hW5, hb5'⟩
  go_wp2_with fail
  refine (num_i _ _ _ _ _ _ hW5 (by omega) (by omega) (by omega) (by omega) (by simp [numB_length]) (Nat.le_trans hz4 hb5'.size)).mono ?_
  rintro e w6 ⟨rfl, hW6, hb6'⟩
  have hb46 := hb5'.trans hb6'
  go_wp2_with fail
  refine (num_i _ _ _ _ _ _ hW6 (by omega) (by omega) (by omega) (by omega) (by simp [numB_length]) (Nat.le_trans hz4 hb46.size)).mono ?_
  rintro e w7 ⟨rfl, hW7, hb7'⟩
  have hb47 := hb46.trans hb7'
  have hz7 := hb47.size
  have hb7 := hb4.trans (hb47.mono (by omega))
  have hr7 := hr4.below hb47 hg0
  have hW7' : IsW w3.heap.size w7 w3.heap.size (pPl 1 cs size 0) := by
    simpa [pPl, HCL.out] using hW7
  clear hW4 hW5 hW6 hW7 hb5' hb6' hb46 hb7' hb47 hr4 hright hfill
  go_wp2_with fail
  go_loopw [8, 35] (fun f i wr => ∃ k E : Nat, k ≤ n ∧ f = .int .i64 (E : Int) ∧ i = .int .i64 (k : Int) ∧ Hid (E + (pCells (cs.take k)).length = size) ∧ E ≤ size ∧ IsW w3.heap.size wr w3.heap.size (pPl 1 cs size k) ∧ RowB wr w2.heap.size (List.replicate E 0 ++ pCells (cs.take k)) ∧ Below w.heap.size w wr ∧ w7.heap.size ≤ wr.heap.size) (fun _ i _ => n - (intOf i).toNat)
  case atStart => exact ⟨0, size, Nat.zero_le _, rfl, rfl, Lib.hid (by simp [pCells]), Nat.le_refl _, hW7', by simpa [pCells] using hr7, hb7, Nat.le_refl _⟩
  case round =>
    obtain ⟨k, E, hkn, rfl, rfl, hE, hEs, hWp, hrw, hbw, hzw⟩ := hrel
    by_cases hlt : k < n
    · obtain ⟨e, ad, Ak, nk, ck, Av, nv, cv, he, ho, rfl, hl⟩ := (h.below (hbw.mono hBw)).at_ hlt
      have hbs := hbw.size
      obtain ⟨a0, a1, a2, a3⟩ := hl.cells
      have hcsk : cs[k]? = some (lCell e) := by rw [← HCS.out, List.getElem?_map, he]; rfl
      have hoke := hok e (List.mem_of_getElem? he)
      have hlo := hlong e (List.mem_of_getElem? he)
      have hstep : pCells (cs.take (k + 1)) = lCell e ++ pCells (cs.take k) := by rw [take_succ_some hcsk, pCells_snoc]
      obtain ⟨L, hL⟩ : ∃ L, lLong e = L := ⟨_, rfl⟩
      have hfit : L ≤ E := by
        have q1 := pCells_length (cs.take (k + 1))
        have q2 := pFill_le cs (k + 1)
        rw [HFF.out] at q2
        rw [hstep, List.length_append, lCell_length, List.length_take, HCL.out, hL] at q1
        have q3 := hE.out
        omega
      have hba : Below w.heap.size w (wr.alloc (lObj e Ak nk ck Av nv cv)) := hbw.alloc hbs _
      have hWa : IsW w3.heap.size (wr.alloc (lObj e Ak nk ck Av nv cv)) w3.heap.size (pPl 1 cs size k) := hWp.below ((Below.refl wr.heap.size wr).alloc (Nat.le_refl _) _)
      have hra : RowB (wr.alloc (lObj e Ak nk ck Av nv cv)) w2.heap.size (List.replicate E 0 ++ pCells (cs.take k)) := hrw.below ((Below.refl wr.heap.size wr).alloc (Nat.le_refl _) _) hrw.lt
      have hla := hl.below ((Below.refl B wr).alloc (Nat.le_trans hBw hbs) (lObj e Ak nk ck Av nv cv))
      have HST := Lib.hid hstep
      have hcb := fun W (hW : Below B (wr.alloc (lObj e Ak nk ck Av nv cv)) W) (hs : B ≤ W.heap.size) => lcellb_any W B (ad.add (k * 4)) e Ak nk ck Av nv cv (hla.2.2.2.2.2.1.below hW) (hla.2.2.2.2.2.2.below hW) hs ho (size : Int) (by omega) hoke
      have hcb0 := hcb _ (Below.refl _ _) (by simp; omega)
      have hlcl : (lCell e).length = L := by rw [lCell_length, hL]
      obtain ⟨Cb, hCb⟩ : ∃ Cb, lCell e = Cb := ⟨_, rfl⟩
      rw [hCb] at hlcl HST hcb0
      rw [hL] at hlo
      clear hstep he hWp hrw hcsk hl hla hcb hoke
      go_wp2_with fail
      refine hcb0.mono ?_
      rintro r we ⟨A8, n8, c8, rfl, hown8, hbe'⟩
      have hn8 := (Sl.of_own hown8).len
      rw [hlcl] at hn8
      subst hn8
      have hbe := hbe'
      obtain ⟨E2, hE2⟩ : ∃ E2, E - L = E2 := ⟨_, rfl⟩
      obtain ⟨R, hRR⟩ : ∃ R, size - E2 = R := ⟨_, rfl⟩
      have hsub : (E : Int) - (L : Int) = (E2 : Int) := by omega
      have hL0 : 0 < L := by have := lCell_length e; unfold lLong at hL; split at hL <;> omega
      have hE2s : E2 < size := by omega
      have hLR : min L R = L := by omega
      have hcut := cut_la (P := Try.prog) 23 5 .i64 Try.underlying23 hi0 hz1 w2.heap.size size E2 hE2s
      rw [hRR] at hcut
      have HE2 := Lib.hid hE2
      have HR := Lib.hid hRR
      have HLR := Lib.hid hLR
      have HLC := Lib.hid hlcl
      have hxI : IntKind.u64.wrap (E2 : Int) = (E2 : Int) := IntWalk.u64_in _ (by omega)
      have hrf := hra.below hbe hra.lt
      have hWf := hWa.below hbe
      have hza := hba.size
      have hze := hbe.size
      have hb3 : Below w.heap.size w we := hba.trans (hbe.mono hza)
      simp only [World.size_alloc] at hze
      clear hE2 hRR hLR hra hWa a0 a1 a2 a3 hcb0 hbe' hlcl hL
      go_wp2_with (first | (refine wpList_copy_bytes rfl (.tmp 47) (.tmp 48) 23 23 rfl Try.underlying23 hinfo _ _ _ _ _ _ rfl rfl w2.heap.size E2 _ hrf _ _ (Sl.of_own hown8) (fun _ => rfl) (by rw [HLR.out, List.length_append, List.length_replicate]; have := HE2.out; omega) ?_; intro wg hrg hag))
      rw [HLR.out, show Cb.take L = Cb from List.take_of_length_le (by rw [HLC.out]; exact Nat.le_refl _)] at hrg
      have hWg := hWf.at_ hag hg0
      have hzg := hag.size
      refine (num_i _ _ _ _ _ _ hWg (by omega) (by omega) (by omega) (by omega) (by rw [pPl_length]; omega) (by omega)).mono ?_
      rintro r wh ⟨rfl, hWh, hbh⟩
      have hsz2 : size - (pCells (cs.take (k + 1))).length = E2 := by
        rw [HST.out, List.length_append, HLC.out]
        have := hE.out
        have := HE2.out
        omega
      have hEn : E2 + (pCells (cs.take (k + 1))).length = size := by
        rw [HST.out, List.length_append, HLC.out]
        have := hE.out
        have := HE2.out
        omega
      rw [← HE2.out, ← HLC.out, splice_cell _ _ _ (by rw [HLC.out]; exact hfit), ← HST.out, HLC.out, HE2.out] at hrg
      simp only [Int.toNat_natCast] at hWh
      have hWn : IsW w3.heap.size wh w3.heap.size (pPl 1 cs size (k + 1)) := by
        rw [pPl_succ, hsz2]
        exact hWh
      have hrh := hrg.below hbh hg0
      have hbz : Below w.heap.size w wh := (hb3.trans (hag.below hz2 hb3.size)).trans (hbh.mono (by have := hb3.size; omega))
      have hzh := hbh.size
      have HEn := Lib.hid hEn
      clear hsz2 hEn hWh hrg hWg hWf hrf hcut
      go_wp2_with fail
      refine ⟨⟨k + 1, E2, hlt, by go_num, by go_num, HEn, by omega, hWn, hrh, hbz, by omega⟩, by simp [intOf]; omega⟩
    · obtain rfl : k = n := by omega
      have htk : cs.take k = cs := List.take_of_length_le (by rw [HCL.out]; exact Nat.le_refl _)
      rw [htk] at hE hrw
      have hzr := hbw.size
      have HWp := hWp
      go_wp2_with fail
      refine (out_any _ _ _ _ hWp (by rw [pPl_length]; omega)).mono ?_
      rintro e wf ⟨A8, n8, c8, rfl, hown8, hbf⟩
      have hn8 := (Sl.of_own hown8).len
      rw [pPl_length] at hn8
      have hrf := hrw.below hbf hrw.lt
      have hcl := pCells_length cs
      have hfl := HFF.out
      rw [HCL.out] at hcl
      have hEq := hE.out
      have hn8E : n8 ≤ E := by omega
      have hn8s : min n8 size = n8 := by omega
      have HN := Lib.hid hn8
      have HS := Lib.hid hn8s
      have HC := Lib.hid hcl
      clear hn8 hn8s hcl hfl hEq
      go_wp2_with (first | (refine wpList_copy_bytes rfl (.tmp 55) (.tmp 57) 23 23 rfl Try.underlying23 hinfo _ _ _ _ _ _ rfl rfl w2.heap.size 0 _ hrf _ _ (Sl.of_own hown8) (fun _ => rfl) (by rw [HS.out, List.length_append, List.length_replicate]; omega) ?_; intro wg hrg hag))
      rw [HS.out, show (pPl 1 cs size k).take n8 = pPl 1 cs size k from List.take_of_length_le (by rw [pPl_length]; have := HN.out; omega), splice_places _ _ _ (by rw [pPl_length]; have := HN.out; omega)] at hrg
      go_ret2
      refine ⟨_, rfl, hz2, ?_, (hbw.trans (hbf.mono hzr)).trans (hag.below hz2 (by have := hbf.size; omega))⟩
      have hpage : pPl 1 cs size k ++ (List.replicate (E - (pPl 1 cs size k).length) 0 ++ pCells cs) = pPut 1 cs size := by
        unfold pPut
        rw [HCL.out, List.append_assoc, pPl_length]
        have e1 : E - (4 + 2 * k) = size - pFill cs := by have := hE.out; have := HC.out; omega
        rw [e1]
      rw [← hpage]
      exact hrg

theorem lput_arg (w : World) (B : Nat) (A : Option Addr) (n c : Nat) (es : List LE) (h : LEnts w B A n es) (hBw : B ≤ w.heap.size) (hn : n ≤ 1000000) (hsh : LSh es) (S : Int) (hR : ¬ LRight es S) :
    Calls Try.prog 29 #[.slice A n c, .int .i64 S] w fun e w' => e = .returned (.tuple #[.slice none 0 0, .int .i64 1]) ∧ Below w.heap.size w w' := by
  go_enter Try.func29, Try.ntmps29
  go_wp2_with fail
  refine (lright_any w B A n c es h hBw hn (fun e he => (hsh e he).2) (fun e he => by have := (hsh e he).1; omega) S).mono ?_
  rintro e w1 ⟨b, rfl, hb, hb1⟩
  have hbf : b = false := by
    cases b with
    | false => rfl
    | true => exact absurd (hb.1 rfl) hR
  subst hbf
  clear hb
  go_wp2_with fail
  go_ret2
  exact ⟨rfl, hb1⟩

theorem lput_full (w : World) (B : Nat) (A : Option Addr) (n c : Nat) (es : List LE) (h : LEnts w B A n es) (hBw : B ≤ w.heap.size) (hn : n ≤ 1000000) (hsh : LSh es) (S : Int) (hR : LRight es S) (hF : S < (lFill es : Int)) :
    Calls Try.prog 29 #[.slice A n c, .int .i64 S] w fun e w' => e = .returned (.tuple #[.slice none 0 0, .int .i64 21]) ∧ Below w.heap.size w w' := by
  obtain ⟨F, hFF⟩ : ∃ F, lFill es = F := ⟨_, rfl⟩
  have hfill : ∀ W, Below B w W → Calls Try.prog 33 #[.slice A n c] W fun e w' => e = .returned (.int .i64 (F : Int)) ∧ Below W.heap.size W w' := fun W hW => by
    rw [← hFF]
    exact lfill_any W B A n c es (h.below hW) (Nat.le_trans hBw hW.size) hn hsh
  rw [hFF] at hF
  have hFd : decide (S < (F : Int)) = true := decide_eq_true hF
  go_enter Try.func29, Try.ntmps29
  go_wp2_with fail
  refine (lright_any w B A n c es h hBw hn (fun e he => (hsh e he).2) (fun e he => by have := (hsh e he).1; omega) S).mono ?_
  rintro e w1 ⟨b, rfl, hb, hb1⟩
  have hbt : b = true := hb.2 hR
  subst hbt
  clear hb hFF hR
  go_wp2_with fail
  refine (hfill w1 (hb1.mono hBw)).mono ?_
  rintro e w2 ⟨rfl, hb2'⟩
  have hb2 := hb1.trans (hb2'.mono hb1.size)
  clear hfill
  go_wp2_with fail
  go_ret2
  exact ⟨rfl, hb2⟩

end Go.Proofs.Ytmljfjmceakahaa
