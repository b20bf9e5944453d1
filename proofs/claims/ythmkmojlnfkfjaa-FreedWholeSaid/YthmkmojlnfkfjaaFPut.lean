/- freed.Put. -/
import Derived.Test.YthmkmojlnfkfjaaFCmp
import Derived.Test.YthmkmojlnfkfjaaSpare
namespace Go.Proofs.Ythmkmojlnfkfjaa
open Go.RowKit
set_option linter.unusedVariables false
set_option linter.unusedSimpArgs false

def fCell (p : FP) : List UInt8 := numB p.1 8 ++ numB p.2 4
def fCells (ps : List FP) : List UInt8 := ps.flatMap fCell
theorem fCells_length (ps : List FP) : (fCells ps).length = ps.length * 12 := by
  induction ps with
  | nil => rfl
  | cons p ps ih =>
    simp only [fCells, List.flatMap_cons, List.length_append] at ih ⊢
    rw [ih]
    simp [fCell, numB_length]
    omega
theorem fCells_snoc (ps : List FP) (p : FP) : fCells (ps ++ [p]) = fCells ps ++ (numB p.1 8 ++ numB p.2 4) := by simp [fCells, fCell]
/-- What is put behind k pairs. -/
def fPl (ps : List FP) (next k : Nat) : List UInt8 := [] ++ numB 4 1 ++ numB 0 1 ++ numB ps.length 2 ++ numB next 4 ++ fCells (ps.take k)
theorem fPl_length (ps : List FP) (next k : Nat) : (fPl ps next k).length = 8 + min k ps.length * 12 := by simp [fPl, numB_length, fCells_length]; omega
theorem take_succ_some {α : Type} {es : List α} {k : Nat} {e : α} (h : es[k]? = some e) : es.take (k + 1) = es.take k ++ [e] := by rw [List.take_add_one, h]; rfl
theorem fPl_step {ps : List FP} {next k : Nat} {p : FP} (h : ps[k]? = some p) : fPl ps next k ++ numB p.1 8 ++ numB p.2 (Int.toNat 4) = fPl ps next (k + 1) := by
  unfold fPl
  rw [take_succ_some h, fCells_snoc]
  simp
/-- A page of pairs. -/
def fPut (ps : List FP) (next size : Nat) : List UInt8 := [4, 0] ++ numB ps.length 2 ++ numB next 4 ++ fCells ps ++ List.replicate (size - 8 - ps.length * 12) 0
theorem fPut_length (ps : List FP) (next size : Nat) (h : 8 + ps.length * 12 ≤ size) : (fPut ps next size).length = size := by
  simp [fPut, numB_length, fCells_length]; omega
theorem numB4 : numB 4 1 = [4] := by decide
theorem numB0 : numB 0 1 = [0] := by decide
theorem fPut_splice (ps : List FP) (next size : Nat) (h : 8 + ps.length * 12 ≤ size) :
    splice (List.replicate size (0 : UInt8)) 0 ((fPl ps next ps.length).take (min (fPl ps next ps.length).length size)) = fPut ps next size := by
  rw [List.take_of_length_le (by rw [fPl_length]; omega)]
  unfold fPl
  rw [List.take_of_length_le (Nat.le_refl _), numB4, numB0]
  simp [splice, fPut, numB_length, fCells_length]
  omega
/-- Pairs rise. -/
def FRise (ps : List FP) : Prop := ∀ i p q, ps[i]? = some p → ps[i + 1]? = some q → cmpP p q < 0
def FRight (ps : List FP) (S : Int) : Prop := 512 ≤ S ∧ S ≤ 4096 ∧ ps.length ≤ fRoom S.toNat ∧ FRise ps
/-- What Put gives. -/
def FPutP (ps : List FP) (next : Nat) (S : Int) (w : World) (e : Ending) (w' : World) : Prop :=
  Below w.heap.size w w' ∧ ((FRight ps S ∧ ∃ g, e = .returned (.tuple #[.slice (some ⟨g, 0, none⟩) S.toNat S.toNat, .int .i64 0]) ∧ w.heap.size ≤ g ∧ RowB w' g (fPut ps next S.toNat)) ∨
    (¬ FRight ps S ∧ e = .returned (.tuple #[.slice none 0 0, .int .i64 1])))
theorem FPutP.no {ps : List FP} {next : Nat} {S : Int} {w w' : World} (h : ¬ FRight ps S) (hb : Below w.heap.size w w') : FPutP ps next S w (.returned (.tuple #[.slice none 0 0, .int .i64 1])) w' := ⟨hb, .inr ⟨h, rfl⟩⟩

set_option maxRecDepth 100000 in
set_option maxHeartbeats 4000000 in
theorem fput_any (w : World) (B : Nat) (A : Option Addr) (n c : Nat) (ps : List FP) (h : Prs w B A n ps) (hBw : B ≤ w.heap.size) (hok : FPs ps) (hn : n ≤ 9223372036854775807) (next : Nat) (hx : next < 4294967296) (S : Int) :
    Calls Try.prog 15 #[.slice A n c, .int .u32 (next : Int), .int .i64 S] w (FPutP ps next S w) := by
  obtain ⟨i0, hi0, hz0, hz1, hz2⟩ := info_parts info_u8
  have hinfo : (Try.prog.info? 5).map (·.size) = some 1 := by rw [hi0]; simp [hz1]
  have hlen := h.len
  subst hlen
  by_cases hS : ¬ (512 ≤ S ∧ S ≤ 4096)
  · go_enter Try.func15, Try.ntmps15
    go_wp2_with (first
      | (go_at_call 28; refine (fmay_no hS _).mono ?_; rintro e w' ⟨rfl, rfl⟩))
    go_ret2
    exact FPutP.no (fun hh => hS ⟨hh.1, hh.2.1⟩) (Below.refl _ _)
  obtain ⟨hS1, hS2⟩ := Decidable.not_not.1 hS
  clear hS
  obtain ⟨size, rfl⟩ := Int.eq_ofNat_of_zero_le (show 0 ≤ S by omega)
  obtain ⟨r1, r2, r3⟩ := fRoom_bounds (size := size) (by omega) (by omega)
  obtain ⟨R, hR⟩ : ∃ R, fRoom size = R := ⟨_, rfl⟩
  have hroom := fun W => froom_any size (by omega) (by omega) W
  rw [hR] at r1 r2 r3 hroom
  have HR := Lib.hid hR
  clear hR
  by_cases hfit : R < ps.length
  · have hd : decide ((R : Int) < (ps.length : Int)) = true := decide_eq_true (by omega)
    have hno : ¬ FRight ps (size : Int) := fun hh => by
      have := hh.2.2.1
      rw [Int.toNat_natCast, HR.out] at this
      omega
    go_enter Try.func15, Try.ntmps15
    go_wp2_with (first
      | (go_at_call 28; refine (fmay_yes hS1 hS2 _).mono ?_; rintro e w' ⟨rfl, rfl⟩)
      | (go_at_call 30; refine (hroom _).mono ?_; rintro e w' ⟨rfl, rfl⟩))
    go_ret2
    exact FPutP.no hno (Below.refl _ _)
  have hd : decide ((R : Int) < (ps.length : Int)) = false := decide_eq_false (by omega)
  have hpl : ps.length ≤ 340 := by omega
  go_enter Try.func15, Try.ntmps15
  go_wp2_with (first
    | (go_at_call 28; refine (fmay_yes hS1 hS2 _).mono ?_; rintro e w' ⟨rfl, rfl⟩)
    | (go_at_call 30; refine (hroom _).mono ?_; rintro e w' ⟨rfl, rfl⟩)
    | (go_at_call 32; refine (new_w _).mono ?_; rintro e w1 ⟨rfl, hW1, hb1⟩))
  clear hroom hd
  refine (num_i _ _ _ _ _ _ hW1 (by omega) (by omega) (by omega) (by omega) (by simp) hb1.size).mono ?_
  rintro e w2 ⟨rfl, hW2, hb2'⟩
  have hb2 := hb1.trans hb2'
  clear hb2' hW1
  go_wp2_with fail
  refine (num_i _ _ _ _ _ _ hW2 (by omega) (by omega) (by omega) (by omega) (by simp [numB_length]) hb2.size).mono ?_
  rintro e w3 ⟨rfl, hW3, hb3'⟩
  have hb3 := hb2.trans hb3'
  clear hb3' hW2
  go_wp2_with fail
  refine (num_i _ _ _ _ _ _ hW3 (by omega) (by omega) (by omega) (by omega) (by simp [numB_length]) hb3.size).mono ?_
  rintro e w4 ⟨rfl, hW4, hb4'⟩
  have hb4 := hb3.trans hb4'
  clear hb4' hW3
  go_wp2_with fail
  refine (num_i _ _ _ _ _ _ hW4 (by omega) (by omega) (by omega) (by omega) (by simp [numB_length]) hb4.size).mono ?_
  rintro e w5 ⟨rfl, hW5, hb5'⟩
  have hb5 := hb4.trans hb5'
  have hWp : IsW w.heap.size w5 w.heap.size (fPl ps next 0) := by simpa [fPl, fCells] using hW5
  clear hb5' hW4 hW5 hb1 hb2 hb3 hb4
  go_wp2_with fail
  go_loopw [38] (fun i wr => ∃ k : Nat, k ≤ ps.length ∧ i = .int .i64 (k : Int) ∧ (∀ i p q, i + 1 < k → ps[i]? = some p → ps[i + 1]? = some q → cmpP p q < 0) ∧ IsW w.heap.size wr w.heap.size (fPl ps next k) ∧ Below w.heap.size w wr) (fun i _ => ps.length - (intOf i).toNat)
  case atStart => exact ⟨0, Nat.zero_le _, rfl, fun i p q hi => by omega, hWp, hb5⟩
  case round =>
    obtain ⟨k, hkn, rfl, hall, hW, hbw⟩ := hrel
    clear hWp hb5
    have hbs := hbw.size
    by_cases hlt : k < ps.length
    · obtain ⟨ad, p, rfl, hB, hp, a0, a1⟩ := (h.below (hbw.mono hBw)).get hlt
      have hok2 := hok p (List.mem_of_getElem? hp)
      obtain ⟨ok1, ok2⟩ := hok2
      have hok2 : p.1 < 18446744073709551616 ∧ p.2 < 4294967296 := ⟨ok1, ok2⟩
      have hbW := hbw.alloc hbs (.cells #[.int .u64 (p.1 : Int), .int .u32 (p.2 : Int)] 51)
      have hq0 := heap_alloc_new wr (.cells #[.int .u64 (p.1 : Int), .int .u32 (p.2 : Int)] 51)
      have hav := hW.avoid (.cells #[.int .u64 (p.1 : Int), .int .u32 (p.2 : Int)] 51)
      have hWW : IsW w.heap.size (wr.alloc (.cells #[.int .u64 (p.1 : Int), .int .u32 (p.2 : Int)] 51)) w.heap.size (fPl ps next k) := hW.below ((Below.refl wr.heap.size wr).alloc (Nat.le_refl _) _)
      have hgW : w.heap.size < (wr.alloc (.cells #[.int .u64 (p.1 : Int), .int .u32 (p.2 : Int)] 51)).heap.size := by simp; omega
      have hqs : wr.heap.size < (wr.alloc (.cells #[.int .u64 (p.1 : Int), .int .u32 (p.2 : Int)] 51)).heap.size := by simp
      have HE := Lib.hid hp
      have HALL := Lib.hid hall
      clear hall hp
      go_wp2_with fail
      obtain ⟨q, hq⟩ : ∃ q, wr.heap.size = q := ⟨_, rfl⟩
      rw [hq] at hq0 hav hqs ⊢
      generalize wr.alloc (.cells #[.int .u64 (p.1 : Int), .int .u32 (p.2 : Int)] 51) = W at hbW hq0 hav hWW hgW hqs ⊢
      clear a0 a1 hW hq
      have hX0 : Below W.heap.size W W.drew := (Below.refl _ _).drew
      have hWs : w.heap.size ≤ W.heap.size := hbW.size
      have hbox : ∀ w', Below W.heap.size W w' → w'.cell? ⟨q, 0, none⟩ = some (.int .u64 (p.1 : Int)) ∧ w'.cell? ⟨q, 1, none⟩ = some (.int .u32 (p.2 : Int)) := fun w' hw => ⟨blk_cell (blk_below hq0 hw hqs) 0, blk_cell (blk_below hq0 hw hqs) 1⟩
      have hu1 : IntKind.u64.wrap (p.1 : Int) = (p.1 : Int) := IntWalk.u64_in _ (by omega)
      have hu2 : IntKind.u64.wrap (p.2 : Int) = (p.2 : Int) := IntWalk.u64_in _ (by omega)
      by_cases d2 : 0 < k
      · obtain ⟨kp, rfl⟩ : ∃ kp, k = kp + 1 := ⟨k - 1, by omega⟩
        obtain ⟨ad', pq, had, hB', hpq, z0, z1⟩ := (h.below (hbW.mono hBw)).get (show kp < ps.length by omega)
        cases had
        have hadW : (ad.add (kp * 2)).block < W.heap.size := by rw [block_of_add]; omega
        have hS : ∀ w', Below W.heap.size W w' → (w'.cell? ⟨q, 0, none⟩ = some (.int .u64 (p.1 : Int)) ∧ w'.cell? ⟨q, 1, none⟩ = some (.int .u32 (p.2 : Int))) ∧ w'.cell? (ad.add (kp * 2)) = some (.int .u64 (pq.1 : Int)) ∧ w'.cell? ⟨(ad.add (kp * 2)).block, (ad.add (kp * 2)).off + 1, none⟩ = some (.int .u32 (pq.2 : Int)) := fun w' hw =>
          ⟨hbox w' hw, (hw.cell hadW).trans z0, (hw.cell (p := ⟨(ad.add (kp * 2)).block, (ad.add (kp * 2)).off + 1, none⟩) hadW).trans z1⟩
        have HS := Lib.hid hS
        have hwk : IntKind.i64.wrap (kp : Int) = (kp : Int) := IntWalk.i64_in _ (by omega)
        have hkp0 : (0 : Int) ≤ (kp : Int) := by omega
        have hkp1 : (kp : Int) < (ps.length : Int) := by omega
        have hkpp : (0 : Int) < (kp : Int) + 1 := by omega
        obtain ⟨rr, hrr⟩ : ∃ rr, cmpP pq p = rr := ⟨_, rfl⟩
        have hcmp := fun W => fcmp_any pq p W
        rw [hrr] at hcmp
        have HPQ := Lib.hid hpq
        have HRR := Lib.hid hrr
        by_cases d3 : 0 ≤ rr
        · have d3d : decide (0 ≤ rr) = true := decide_eq_true d3
          have hno : ¬ FRight ps (size : Int) := fun hh => by
            have := hh.2.2.2 kp pq p HPQ.out HE.out
            rw [HRR.out] at this
            omega
          clear hrr hS hpq hbox z0 z1
          refine wp_region_held_drew (S := (fun w' => (w'.cell? ⟨q, 0, none⟩ = some (.int .u64 (p.1 : Int)) ∧ w'.cell? ⟨q, 1, none⟩ = some (.int .u32 (p.2 : Int))) ∧ w'.cell? (ad.add (kp * 2)) = some (.int .u64 (pq.1 : Int)) ∧ w'.cell? ⟨(ad.add (kp * 2)).block, (ad.add (kp * 2)).off + 1, none⟩ = some (.int .u32 (pq.2 : Int)))) (by kernel_rfl) ?_ (fun hHeld => ?_)
          · exact HS.out _ (by assumption)
          refine takeP (i := 0) rfl (by kernel_rfl) (by kernel_rfl) (by kernel_rfl) (fun _ _ _ h => h) (by rfl) (by assumption) (v := ?_) ?_ ?_
          rotate_left
          · intro w' hSw
            try dsimp only at hSw
            go_simp
            try with_reducible rfl
          try simp only [Act.put, List.setIfInBounds_toArray, List.set_cons_zero, List.set_cons_succ]
          refine takeP (i := 1) rfl (by kernel_rfl) (by kernel_rfl) (by kernel_rfl) (fun _ _ _ h => h) (by rfl) (by assumption) (v := ?_) ?_ ?_
          rotate_left
          · intro w' hSw
            try dsimp only at hSw
            go_simp
            try with_reducible rfl
          try simp only [Act.put, List.setIfInBounds_toArray, List.set_cons_zero, List.set_cons_succ]
          refine takeP (i := 2) rfl (by kernel_rfl) (by kernel_rfl) (by kernel_rfl) (fun _ _ _ h => h) (by rfl) (by assumption) (v := ?_) ?_ ?_
          rotate_left
          · intro w' hSw
            try dsimp only at hSw
            go_simp
            try with_reducible rfl
          try simp only [Act.put, List.setIfInBounds_toArray, List.set_cons_zero, List.set_cons_succ]
          refine takeP (i := 3) rfl (by kernel_rfl) (by kernel_rfl) (by kernel_rfl) (fun _ _ _ h => h) (by rfl) (by assumption) (v := ?_) ?_ ?_
          rotate_left
          · intro w' hSw
            try dsimp only at hSw
            go_simp
            try with_reducible rfl
          try simp only [Act.put, List.setIfInBounds_toArray, List.set_cons_zero, List.set_cons_succ]
          refine takeP (i := 4) rfl (by kernel_rfl) (by kernel_rfl) (by kernel_rfl) (fun _ _ _ h => h) (by rfl) (by assumption) (v := ?_) ?_ ?_
          rotate_left
          · intro w' hSw
            try dsimp only at hSw
            go_simp
            try with_reducible rfl
          try simp only [Act.put, List.setIfInBounds_toArray, List.set_cons_zero, List.set_cons_succ]
          refine takeP (i := 5) rfl (by kernel_rfl) (by kernel_rfl) (by kernel_rfl) (fun _ _ _ h => h) (by rfl) (by assumption) (v := ?_) ?_ ?_
          rotate_left
          · intro w' hSw
            try dsimp only at hSw
            go_simp
            try with_reducible rfl
          try simp only [Act.put, List.setIfInBounds_toArray, List.set_cons_zero, List.set_cons_succ]
          refine takeP (i := 6) rfl (by kernel_rfl) (by kernel_rfl) (by kernel_rfl) (fun _ _ _ h => h) (by rfl) (by assumption) (v := ?_) ?_ ?_
          rotate_left
          · intro w' hSw
            try dsimp only at hSw
            go_simp
            try with_reducible rfl
          try simp only [Act.put, List.setIfInBounds_toArray, List.set_cons_zero, List.set_cons_succ]
          refine takeP (i := 7) rfl (by kernel_rfl) (by kernel_rfl) (by kernel_rfl) (fun _ _ _ h => h) (by rfl) (by assumption) (v := ?_) ?_ ?_
          rotate_left
          · intro w' hSw
            try dsimp only at hSw
            go_simp
            try with_reducible rfl
          try simp only [Act.put, List.setIfInBounds_toArray, List.set_cons_zero, List.set_cons_succ]
          refine takeP (i := 8) rfl (by kernel_rfl) (by kernel_rfl) (by kernel_rfl) (fun _ _ _ h => h) (by rfl) (by assumption) (v := ?_) ?_ ?_
          rotate_left
          · intro w' hSw
            try dsimp only at hSw
            go_simp
            try with_reducible rfl
          try simp only [Act.put, List.setIfInBounds_toArray, List.set_cons_zero, List.set_cons_succ]
          refine carryP (i := 9) rfl (by kernel_rfl) (by rfl) (fun K hK => ?_)
          go_simp
          refine (hcmp _).mono ?_
          rintro r w5 ⟨rfl, hb5⟩
          have hX5 : Below W.heap.size W w5 := hX0.trans (hb5.mono hX0.size)
          refine hK.out _ _ ?_ (fun hHeld => ?_)
          · exact HS.out _ (by assumption)
          clear hK K
          try simp only [Act.put, List.setIfInBounds_toArray, List.set_cons_zero, List.set_cons_succ]
          refine takeP (i := 10) rfl (by kernel_rfl) (by kernel_rfl) (by kernel_rfl) (fun _ _ _ h => h) (by rfl) (by assumption) (v := ?_) ?_ ?_
          rotate_left
          · intro w' hSw
            try dsimp only at hSw
            go_simp
            try with_reducible rfl
          try simp only [Act.put, List.setIfInBounds_toArray, List.set_cons_zero, List.set_cons_succ]
          refine takeP (i := 11) rfl (by kernel_rfl) (by kernel_rfl) (by kernel_rfl) (fun _ _ _ h => h) (by rfl) (by assumption) (v := ?_) ?_ ?_
          rotate_left
          · intro w' hSw
            try dsimp only at hSw
            go_simp
            try with_reducible rfl
          try simp only [Act.put, List.setIfInBounds_toArray, List.set_cons_zero, List.set_cons_succ]
          refine wpAnyH_done (by kernel_rfl) ?_ _
          go_wp2_with fail
          go_ret2
          exact FPutP.no hno (hbW.trans (hX5.mono hWs))
        · have d3d : decide (0 ≤ rr) = false := decide_eq_false d3
          have hnew : ∀ i p q, i + 1 < kp + 1 + 1 → ps[i]? = some p → ps[i + 1]? = some q → cmpP p q < 0 := by
            intro i p' q' hi h1 h2
            by_cases e1 : i + 1 < kp + 1
            · exact HALL.out i p' q' e1 h1 h2
            · obtain rfl : i = kp := by omega
              rw [HPQ.out] at h1
              rw [HE.out] at h2
              cases h1
              cases h2
              rw [HRR.out]
              omega
          have HNEW := Lib.hid hnew
          clear hrr hS hpq hbox hnew z0 z1
          refine wp_region_held_drew (S := (fun w' => (w'.cell? ⟨q, 0, none⟩ = some (.int .u64 (p.1 : Int)) ∧ w'.cell? ⟨q, 1, none⟩ = some (.int .u32 (p.2 : Int))) ∧ w'.cell? (ad.add (kp * 2)) = some (.int .u64 (pq.1 : Int)) ∧ w'.cell? ⟨(ad.add (kp * 2)).block, (ad.add (kp * 2)).off + 1, none⟩ = some (.int .u32 (pq.2 : Int)))) (by kernel_rfl) ?_ (fun hHeld => ?_)
          · exact HS.out _ (by assumption)
          refine takeP (i := 0) rfl (by kernel_rfl) (by kernel_rfl) (by kernel_rfl) (fun _ _ _ h => h) (by rfl) (by assumption) (v := ?_) ?_ ?_
          rotate_left
          · intro w' hSw
            try dsimp only at hSw
            go_simp
            try with_reducible rfl
          try simp only [Act.put, List.setIfInBounds_toArray, List.set_cons_zero, List.set_cons_succ]
          refine takeP (i := 1) rfl (by kernel_rfl) (by kernel_rfl) (by kernel_rfl) (fun _ _ _ h => h) (by rfl) (by assumption) (v := ?_) ?_ ?_
          rotate_left
          · intro w' hSw
            try dsimp only at hSw
            go_simp
            try with_reducible rfl
          try simp only [Act.put, List.setIfInBounds_toArray, List.set_cons_zero, List.set_cons_succ]
          refine takeP (i := 2) rfl (by kernel_rfl) (by kernel_rfl) (by kernel_rfl) (fun _ _ _ h => h) (by rfl) (by assumption) (v := ?_) ?_ ?_
          rotate_left
          · intro w' hSw
            try dsimp only at hSw
            go_simp
            try with_reducible rfl
          try simp only [Act.put, List.setIfInBounds_toArray, List.set_cons_zero, List.set_cons_succ]
          refine takeP (i := 3) rfl (by kernel_rfl) (by kernel_rfl) (by kernel_rfl) (fun _ _ _ h => h) (by rfl) (by assumption) (v := ?_) ?_ ?_
          rotate_left
          · intro w' hSw
            try dsimp only at hSw
            go_simp
            try with_reducible rfl
          try simp only [Act.put, List.setIfInBounds_toArray, List.set_cons_zero, List.set_cons_succ]
          refine takeP (i := 4) rfl (by kernel_rfl) (by kernel_rfl) (by kernel_rfl) (fun _ _ _ h => h) (by rfl) (by assumption) (v := ?_) ?_ ?_
          rotate_left
          · intro w' hSw
            try dsimp only at hSw
            go_simp
            try with_reducible rfl
          try simp only [Act.put, List.setIfInBounds_toArray, List.set_cons_zero, List.set_cons_succ]
          refine takeP (i := 5) rfl (by kernel_rfl) (by kernel_rfl) (by kernel_rfl) (fun _ _ _ h => h) (by rfl) (by assumption) (v := ?_) ?_ ?_
          rotate_left
          · intro w' hSw
            try dsimp only at hSw
            go_simp
            try with_reducible rfl
          try simp only [Act.put, List.setIfInBounds_toArray, List.set_cons_zero, List.set_cons_succ]
          refine takeP (i := 6) rfl (by kernel_rfl) (by kernel_rfl) (by kernel_rfl) (fun _ _ _ h => h) (by rfl) (by assumption) (v := ?_) ?_ ?_
          rotate_left
          · intro w' hSw
            try dsimp only at hSw
            go_simp
            try with_reducible rfl
          try simp only [Act.put, List.setIfInBounds_toArray, List.set_cons_zero, List.set_cons_succ]
          refine takeP (i := 7) rfl (by kernel_rfl) (by kernel_rfl) (by kernel_rfl) (fun _ _ _ h => h) (by rfl) (by assumption) (v := ?_) ?_ ?_
          rotate_left
          · intro w' hSw
            try dsimp only at hSw
            go_simp
            try with_reducible rfl
          try simp only [Act.put, List.setIfInBounds_toArray, List.set_cons_zero, List.set_cons_succ]
          refine takeP (i := 8) rfl (by kernel_rfl) (by kernel_rfl) (by kernel_rfl) (fun _ _ _ h => h) (by rfl) (by assumption) (v := ?_) ?_ ?_
          rotate_left
          · intro w' hSw
            try dsimp only at hSw
            go_simp
            try with_reducible rfl
          try simp only [Act.put, List.setIfInBounds_toArray, List.set_cons_zero, List.set_cons_succ]
          refine carryP (i := 9) rfl (by kernel_rfl) (by rfl) (fun K hK => ?_)
          go_simp
          refine (hcmp _).mono ?_
          rintro r w5 ⟨rfl, hb5⟩
          have hX5 : Below W.heap.size W w5 := hX0.trans (hb5.mono hX0.size)
          refine hK.out _ _ ?_ (fun hHeld => ?_)
          · exact HS.out _ (by assumption)
          clear hK K
          try simp only [Act.put, List.setIfInBounds_toArray, List.set_cons_zero, List.set_cons_succ]
          refine takeP (i := 10) rfl (by kernel_rfl) (by kernel_rfl) (by kernel_rfl) (fun _ _ _ h => h) (by rfl) (by assumption) (v := ?_) ?_ ?_
          rotate_left
          · intro w' hSw
            try dsimp only at hSw
            go_simp
            try with_reducible rfl
          try simp only [Act.put, List.setIfInBounds_toArray, List.set_cons_zero, List.set_cons_succ]
          refine takeP (i := 11) rfl (by kernel_rfl) (by kernel_rfl) (by kernel_rfl) (fun _ _ _ h => h) (by rfl) (by assumption) (v := ?_) ?_ ?_
          rotate_left
          · intro w' hSw
            try dsimp only at hSw
            go_simp
            try with_reducible rfl
          try simp only [Act.put, List.setIfInBounds_toArray, List.set_cons_zero, List.set_cons_succ]
          refine wpAnyH_done (by kernel_rfl) ?_ _
          have hW5 := hWW.below hX5
          have hAv := (Spares.of_below hX5 hgW) q hav
          have hq5 : w5.heap[q]? = some (.cells #[.int .u64 (p.1 : Int), .int .u32 (p.2 : Int)] 51 (0, 0)) := hAv.2.trans hq0
          have y0 := blk_cell hq5 0
          go_wp2_with fail
          refine (num_keep _ _ _ p.1 hok2.1 8 (by omega) (by omega) _ hW5 (by rw [fPl_length]; omega) (Nat.le_trans hWs (Below.size hX5))).mono ?_
          rintro e w6 ⟨rfl, hW6, hb6, hsp6⟩
          have hq6 := (hsp6 q hAv.1).2.trans hq5
          have y1 := blk_cell hq6 1
          have hz6 := hb6.size
          clear y0
          go_wp2_with fail
          refine (num_i _ _ _ _ _ _ hW6 (by omega) (by omega) (by omega) (by omega) (by rw [List.length_append, fPl_length, numB_length]; omega) (Nat.le_trans (Nat.le_trans hWs (Below.size hX5)) hz6)).mono ?_
          rintro e w7 ⟨rfl, hW7, hb7⟩
          rw [Int.toNat_natCast, fPl_step HE.out] at hW7
          clear y1
          go_wp2_with fail
          refine ⟨⟨kp + 1 + 1, hlt, by go_num, HNEW.out, hW7, ((hbW.trans (Below.mono hX5 hWs)).trans hb6).trans hb7⟩, by simp [intOf]; omega⟩
      · obtain rfl : k = 0 := by omega
        have HS := Lib.hid hbox
        have HNEW : Hid (∀ i p q, i + 1 < 0 + 1 → ps[i]? = some p → ps[i + 1]? = some q → cmpP p q < 0) := Lib.hid fun i p q hi => by omega
        clear hbox
        refine wp_region_held_drew (S := (fun w' => w'.cell? ⟨q, 0, none⟩ = some (.int .u64 (p.1 : Int)) ∧ w'.cell? ⟨q, 1, none⟩ = some (.int .u32 (p.2 : Int)))) (by kernel_rfl) ?_ (fun hHeld => ?_)
        · exact HS.out _ (by assumption)
        refine takeP (i := 0) rfl (by kernel_rfl) (by kernel_rfl) (by kernel_rfl) (fun _ _ _ h => h) (by rfl) (by assumption) (v := ?_) ?_ ?_
        rotate_left
        · intro w' hSw
          try dsimp only at hSw
          go_simp
          try with_reducible rfl
        try simp only [Act.put, List.setIfInBounds_toArray, List.set_cons_zero, List.set_cons_succ]
        refine takeP (i := 1) rfl (by kernel_rfl) (by kernel_rfl) (by kernel_rfl) (fun _ _ _ h => h) (by rfl) (by assumption) (v := ?_) ?_ ?_
        rotate_left
        · intro w' hSw
          try dsimp only at hSw
          go_simp
          try with_reducible rfl
        try simp only [Act.put, List.setIfInBounds_toArray, List.set_cons_zero, List.set_cons_succ]
        refine takeP (i := 2) rfl (by kernel_rfl) (by kernel_rfl) (by kernel_rfl) (fun _ _ _ h => h) (by rfl) (by assumption) (v := ?_) ?_ ?_
        rotate_left
        · intro w' hSw
          try dsimp only at hSw
          go_simp
          try with_reducible rfl
        try simp only [Act.put, List.setIfInBounds_toArray, List.set_cons_zero, List.set_cons_succ]
        refine takeN (i := 3) rfl (by kernel_rfl) (by kernel_rfl) (by kernel_rfl) (fun _ _ _ h => h) (by rfl) (by assumption) ?_
        try simp only [Act.put, List.setIfInBounds_toArray, List.set_cons_zero, List.set_cons_succ]
        refine takeN (i := 4) rfl (by kernel_rfl) (by kernel_rfl) (by kernel_rfl) (fun _ _ _ h => h) (by rfl) (by assumption) ?_
        try simp only [Act.put, List.setIfInBounds_toArray, List.set_cons_zero, List.set_cons_succ]
        refine takeN (i := 5) rfl (by kernel_rfl) (by kernel_rfl) (by kernel_rfl) (fun _ _ _ h => h) (by rfl) (by assumption) ?_
        try simp only [Act.put, List.setIfInBounds_toArray, List.set_cons_zero, List.set_cons_succ]
        refine takeN (i := 6) rfl (by kernel_rfl) (by kernel_rfl) (by kernel_rfl) (fun _ _ _ h => h) (by rfl) (by assumption) ?_
        try simp only [Act.put, List.setIfInBounds_toArray, List.set_cons_zero, List.set_cons_succ]
        refine takeN (i := 7) rfl (by kernel_rfl) (by kernel_rfl) (by kernel_rfl) (fun _ _ _ h => h) (by rfl) (by assumption) ?_
        try simp only [Act.put, List.setIfInBounds_toArray, List.set_cons_zero, List.set_cons_succ]
        refine takeN (i := 8) rfl (by kernel_rfl) (by kernel_rfl) (by kernel_rfl) (fun _ _ _ h => h) (by rfl) (by assumption) ?_
        try simp only [Act.put, List.setIfInBounds_toArray, List.set_cons_zero, List.set_cons_succ]
        refine takeN (i := 9) rfl (by kernel_rfl) (by kernel_rfl) (by kernel_rfl) (fun _ _ _ h => h) (by rfl) (by assumption) ?_
        try simp only [Act.put, List.setIfInBounds_toArray, List.set_cons_zero, List.set_cons_succ]
        refine takeN (i := 10) rfl (by kernel_rfl) (by kernel_rfl) (by kernel_rfl) (fun _ _ _ h => h) (by rfl) (by assumption) ?_
        try simp only [Act.put, List.setIfInBounds_toArray, List.set_cons_zero, List.set_cons_succ]
        refine takeP (i := 11) rfl (by kernel_rfl) (by kernel_rfl) (by kernel_rfl) (fun _ _ _ h => h) (by rfl) (by assumption) (v := ?_) ?_ ?_
        rotate_left
        · intro w' hSw
          try dsimp only at hSw
          go_simp
          try with_reducible rfl
        try simp only [Act.put, List.setIfInBounds_toArray, List.set_cons_zero, List.set_cons_succ]
        refine wpAnyH_done (by kernel_rfl) ?_ _
        have hW5 := hWW.below hX0
        have hAv := (Spares.of_below hX0 hgW) q hav
        have hq5 : W.drew.heap[q]? = some (.cells #[.int .u64 (p.1 : Int), .int .u32 (p.2 : Int)] 51 (0, 0)) := hAv.2.trans hq0
        have y0 := blk_cell hq5 0
        go_wp2_with fail
        refine (num_keep _ _ _ p.1 hok2.1 8 (by omega) (by omega) _ hW5 (by rw [fPl_length]; omega) (Nat.le_trans hWs (Below.size hX0))).mono ?_
        rintro e w6 ⟨rfl, hW6, hb6, hsp6⟩
        have hq6 := (hsp6 q hAv.1).2.trans hq5
        have y1 := blk_cell hq6 1
        have hz6 := hb6.size
        clear y0
        go_wp2_with fail
        refine (num_i _ _ _ _ _ _ hW6 (by omega) (by omega) (by omega) (by omega) (by rw [List.length_append, fPl_length, numB_length]; omega) (Nat.le_trans (Nat.le_trans hWs (Below.size hX0)) hz6)).mono ?_
        rintro e w7 ⟨rfl, hW7, hb7⟩
        rw [Int.toNat_natCast, fPl_step HE.out] at hW7
        clear y1
        go_wp2_with fail
        refine ⟨⟨0 + 1, hlt, by go_num, HNEW.out, hW7, ((hbW.trans (Below.mono hX0 hWs)).trans hb6).trans hb7⟩, by simp [intOf]; omega⟩
    · obtain rfl : k = ps.length := by omega
      have hRt : FRight ps (size : Int) := ⟨hS1, hS2, by rw [Int.toNat_natCast, HR.out]; omega, fun i p q h1 h2 => hall i p q (by have := (List.getElem?_eq_some_iff.1 h2).1; omega) h1 h2⟩
      have hs0 : (0 : Int) ≤ (size : Int) := by omega
      have hsl : (fPl ps next ps.length).length ≤ 4088 := by rw [fPl_length]; omega
      clear hall
      go_wp2_with (first
        | (at_make; refine wpList_make_bytes _ rfl _ _ _ rfl Try.underlying35 info_u8 _ _ _ rfl rfl (by omega) (by omega) ?_; intro w7 hr7 hb7')
        | (go_at_call 35; refine (out_any _ _ _ _ (hW.below hb7') (by omega)).mono ?_; rintro e w8 ⟨A8, n8, c8, rfl, hown8, hb8'⟩; have hr8 := hr7.below hb8' hr7.lt)
        | (refine wpList_copy_bytes rfl (.tmp 67) (.tmp 69) 35 35 rfl Try.underlying35 hinfo _ _ _ _ _ _ rfl rfl wr.heap.size 0 _ hr8 _ _ (Sl.of_own hown8) (fun _ => rfl) (by simp; omega) ?_; intro w9 hr9 ha9))
      go_ret2
      have hn8 := (Sl.of_own hown8).len
      subst hn8
      have hz8 := hb7'.size
      have hz9 := hb8'.size
      refine ⟨((hbw.trans (hb7'.mono hbs)).trans (hb8'.mono (by omega))).trans (ha9.below hbs (by omega)), .inl ⟨hRt, _, rfl, hbs, ?_⟩⟩
      have hsp := fPut_splice ps next size (by omega)
      simp only [Int.toNat_natCast] at hr9 ⊢
      rw [← hsp]
      exact hr9

end Go.Proofs.Ythmkmojlnfkfjaa
