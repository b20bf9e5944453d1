/- Layer 3: Crash. -/
import Derived.Test.YthijobbhpbklmaaCrashA
namespace Go.Proofs.Ythijobbhpbklmaa
open Go.RowKit
set_option linter.unusedVariables false
set_option linter.unusedSimpArgs false

def CrashP (w : World) (base : Nat) (ok : Nat → Prop) (p : Nat) (D : Dk) (ps : List UInt8) (e : Ending) (w' : World) : Prop :=
  e = .returned (.tuple #[]) ∧ DiskAt w' base ok p (D.crash ps) ∧ Fr ok w w'
set_option maxRecDepth 100000 in
set_option maxHeartbeats 4000000 in
theorem dcrash_any {w : World} {base : Nat} {ok : Nat → Prop} {p : Nat} {D : Dk} (h : DiskAt w base ok p D) (hfr : ∀ k, w.heap.size ≤ k → ok k) (hbase : base ≤ w.heap.size) (hlo : D.loose.length ≤ 1000000000) (A : Option Addr) (n c : Nat) (ps : List UInt8) (hps : Sl w w.heap.size A n c ps) (hno : 0 < n → ∀ ad, A = some ad → ¬ ok ad.block) :
    Calls Try.prog 24 #[.pointer (some ⟨p, 0, none⟩), .slice A n c] w (CrashP w base ok p D ps) := by
  obtain ⟨il, li0, lz0, lz1, lz2⟩ := info_parts info_loose
  obtain ⟨iu, ui0, uz0, uz1, uz2⟩ := info_parts info_u8
  obtain ⟨G, L, dn, Z, h⟩ := h
  have hpl := hps.len
  have HPS := Lib.hid (fun (W : World) (hF : Fr ok w W) (k : Nat) (hk : k < n) => (by
    obtain ⟨ad, u, ea, hb, hu, hc⟩ := hps.reads.at_ hk
    have hbk := hF.2.2.2.2 ad.block hb (hno (by omega) ad ea)
    simp only [bv, List.getElem?_map, Option.map_eq_some_iff] at hu
    obtain ⟨q, hq, rfl⟩ := hu
    exact ⟨ad, q, ea, hq, (World.cell?_of_block (by rw [block_of_add]; exact hbk)).trans hc⟩ : ∃ (ad : Addr) (q : UInt8), A = some ad ∧ ps[k]? = some q ∧ W.cell? (ad.add k) = some (.int .u8 (q.toNat : Int))))
  have hncap := hps.cap
  clear hps hno
  have hl2 : D.good.length ≤ 65536 := Nat.le_trans h.wf.g1 h.wf.l2
  have hwf := h.wf
  obtain ⟨Al, cl, csl, hL0, hoL, _, hrowL⟩ := h.loose
  obtain ⟨m, hm⟩ : ∃ m, D.loose.length = m := ⟨_, rfl⟩
  rw [hm] at hL0 hlo
  subst hL0
  have HMM := Lib.hid hm
  have hmc : m ≤ cl := by
    rw [hm] at hoL
    rcases hoL.2 with ⟨e, h0⟩ | ⟨g, cap, cur, e, _, _, h3, _⟩
    · rw [h0]; exact Nat.zero_le _
    · injection e with _ _ e; omega
  have HWF := Lib.hid hwf
  have HD0 := Lib.hid (show DAt w base ok p (crashTo D ps 0) G (.slice Al m cl) dn Z from by rw [crashTo_zero]; exact h)
  obtain ⟨_, _, e2, e3, _⟩ := h.blk.cells
  have hmi : (if n < m then (n : Int) else (m : Int)) = ((min m n : Nat) : Int) := by split <;> omega
  obtain ⟨mn, hmn⟩ : ∃ mn, min m n = mn := ⟨_, rfl⟩
  rw [hmn] at hmi
  have hm1 : mn ≤ m := by omega
  have hm2 : mn ≤ n := by omega
  have hm3 : mn ≤ cl := by omega
  have HMN := Lib.hid hmn
  obtain ⟨T, hT⟩ : ∃ T, D.size = T * 128 := ⟨D.size / 128, by have := hwf.s3; omega⟩
  have hdv : wrap64 ((D.size : Int) / 128) = (T : Int) := t_div _ _ hT hwf.s2
  have HT := Lib.hid hT
  have hTs : T ≤ 32 := t32 _ _ hT hwf.s2
  clear hoL hrowL hm hwf hmn h hT
  go_enter Try.func24, Try.ntmps24
  go_wp2_with fail
  refine wp_region_held_drew (S := (fun w' => w'.cell? ⟨p, 3, none⟩ = some (.slice Al m cl))) (by kernel_rfl) ?_ (fun hHeld => ?_)
  · exact e3
  refine takeP (i := 0) rfl (by kernel_rfl) (by kernel_rfl) (by kernel_rfl) (fun _ _ _ h => h) (by rfl) (by assumption) (v := ?_) ?_ ?_
  rotate_left
  · intro w' hSw
    try dsimp only at hSw
    go_simp
    try with_reducible rfl
  try simp only [Act.put, List.setIfInBounds_toArray, List.set_cons_zero, List.set_cons_succ]
  refine takeP (i := 1) rfl (by kernel_rfl) (by kernel_rfl) (by kernel_rfl) (fun _ _ _ h => h) (by rfl) (by assumption) (v := ?_) ?_ ?_
  rotate_left
  · intro w' hSw
    try dsimp only at hSw
    go_simp
    try with_reducible rfl
  try simp only [Act.put, List.setIfInBounds_toArray, List.set_cons_zero, List.set_cons_succ]
  refine takeP (i := 2) rfl (by kernel_rfl) (by kernel_rfl) (by kernel_rfl) (fun _ _ _ h => h) (by rfl) (by assumption) (v := ?_) ?_ ?_
  rotate_left
  · intro w' hSw
    try dsimp only at hSw
    go_simp
    try with_reducible rfl
  try simp only [Act.put, List.setIfInBounds_toArray, List.set_cons_zero, List.set_cons_succ]
  refine takeP (i := 3) rfl (by kernel_rfl) (by kernel_rfl) (by kernel_rfl) (fun _ _ _ h => h) (by rfl) (by assumption) (v := ?_) ?_ ?_
  rotate_left
  · intro w' hSw
    try dsimp only at hSw
    go_simp
    try with_reducible rfl
  try simp only [Act.put, List.setIfInBounds_toArray, List.set_cons_zero, List.set_cons_succ]
  refine takeP (i := 4) rfl (by kernel_rfl) (by kernel_rfl) (by kernel_rfl) (fun _ _ _ h => h) (by rfl) (by assumption) (v := ?_) ?_ ?_
  rotate_left
  · intro w' hSw
    try dsimp only at hSw
    go_simp
    try with_reducible rfl
  try simp only [Act.put, List.setIfInBounds_toArray, List.set_cons_zero, List.set_cons_succ]
  refine takeP (i := 5) rfl (by kernel_rfl) (by kernel_rfl) (by kernel_rfl) (fun _ _ _ h => h) (by rfl) (by assumption) (v := ?_) ?_ ?_
  rotate_left
  · intro w' hSw
    try dsimp only at hSw
    go_simp
    try with_reducible rfl
  try simp only [Act.put, List.setIfInBounds_toArray, List.set_cons_zero, List.set_cons_succ]
  refine takeP (i := 6) rfl (by kernel_rfl) (by kernel_rfl) (by kernel_rfl) (fun _ _ _ h => h) (by rfl) (by assumption) (v := ?_) ?_ ?_
  rotate_left
  · intro w' hSw
    try dsimp only at hSw
    go_simp
    try with_reducible rfl
  try simp only [Act.put, List.setIfInBounds_toArray, List.set_cons_zero, List.set_cons_succ]
  refine takeP (i := 7) rfl (by kernel_rfl) (by kernel_rfl) (by kernel_rfl) (fun _ _ _ h => h) (by rfl) (by assumption) (v := ?_) ?_ ?_
  rotate_left
  · intro w' hSw
    try dsimp only at hSw
    go_simp
    try with_reducible rfl
  try simp only [Act.put, List.setIfInBounds_toArray, List.set_cons_zero, List.set_cons_succ]
  refine takeP (i := 8) rfl (by kernel_rfl) (by kernel_rfl) (by kernel_rfl) (fun _ _ _ h => h) (by rfl) (by assumption) (v := ?_) ?_ ?_
  rotate_left
  · intro w' hSw
    try dsimp only at hSw
    go_simp
    try with_reducible rfl
  try simp only [Act.put, List.setIfInBounds_toArray, List.set_cons_zero, List.set_cons_succ]
  refine takeP (i := 9) rfl (by kernel_rfl) (by kernel_rfl) (by kernel_rfl) (fun _ _ _ h => h) (by rfl) (by assumption) (v := ?_) ?_ ?_
  rotate_left
  · intro w' hSw
    try dsimp only at hSw
    go_simp
    try with_reducible rfl
  try simp only [Act.put, List.setIfInBounds_toArray, List.set_cons_zero, List.set_cons_succ]
  refine takeP (i := 10) rfl (by kernel_rfl) (by kernel_rfl) (by kernel_rfl) (fun _ _ _ h => h) (by rfl) (by assumption) (v := ?_) ?_ ?_
  rotate_left
  · intro w' hSw
    try dsimp only at hSw
    go_simp
    try with_reducible rfl
  try simp only [Act.put, List.setIfInBounds_toArray, List.set_cons_zero, List.set_cons_succ]
  refine takeP (i := 11) rfl (by kernel_rfl) (by kernel_rfl) (by kernel_rfl) (fun _ _ _ h => h) (by rfl) (by assumption) (v := ?_) ?_ ?_
  rotate_left
  · intro w' hSw
    try dsimp only at hSw
    go_simp
    try with_reducible rfl
  try simp only [Act.put, List.setIfInBounds_toArray, List.set_cons_zero, List.set_cons_succ]
  refine takeP (i := 12) rfl (by kernel_rfl) (by kernel_rfl) (by kernel_rfl) (fun _ _ _ h => h) (by rfl) (by assumption) (v := ?_) ?_ ?_
  rotate_left
  · intro w' hSw
    try dsimp only at hSw
    go_simp
    try with_reducible rfl
  try simp only [Act.put, List.setIfInBounds_toArray, List.set_cons_zero, List.set_cons_succ]
  refine takeP (i := 13) rfl (by kernel_rfl) (by kernel_rfl) (by kernel_rfl) (fun _ _ _ h => h) (by rfl) (by assumption) (v := ?_) ?_ ?_
  rotate_left
  · intro w' hSw
    try dsimp only at hSw
    go_simp
    try with_reducible rfl
  try simp only [Act.put, List.setIfInBounds_toArray, List.set_cons_zero, List.set_cons_succ]
  refine takeP (i := 14) rfl (by kernel_rfl) (by kernel_rfl) (by kernel_rfl) (fun _ _ _ h => h) (by rfl) (by assumption) (v := ?_) ?_ ?_
  rotate_left
  · intro w' hSw
    try dsimp only at hSw
    go_simp
    try with_reducible rfl
  try simp only [Act.put, List.setIfInBounds_toArray, List.set_cons_zero, List.set_cons_succ]
  refine wpAnyH_done (by kernel_rfl) ?_ _
  clear e2 e3
  go_wp2_with fail
  go_loopw [24] (fun i wr => ∃ k : Nat, k ≤ mn ∧ i = .int .i64 (k : Int) ∧ DAt wr base ok p (crashTo D ps k) G (.slice Al m cl) dn Z ∧ Fr ok w wr) (fun i _ => mn - (intOf i).toNat)
  case atStart => exact ⟨0, Nat.zero_le _, rfl, HD0.out.drew, (Fr.refl _ _).drew⟩
  case round =>
    obtain ⟨k, hk, rfl, hDr, hFr⟩ := hrel
    obtain ⟨wo, hwo⟩ : ∃ wo, wo = wr := ⟨_, rfl⟩
    subst hwo
    have hbs := hFr.size
    by_cases hlt : k < mn
    · obtain ⟨adp, pk, rfl, hpk, hpc⟩ := HPS.out wo hFr k (by omega)
      obtain ⟨Al', cl', csl, hL1, hoL, _, hrowL⟩ := hDr.loose
      rw [show (crashTo D ps k).loose.length = m from HMM.out] at hoL
      have hR := Reads.of_own hoL
      obtain ⟨x, hx⟩ : ∃ x, D.loose[k]? = some x := ⟨_, List.getElem?_eq_getElem (by rw [HMM.out]; omega)⟩
      obtain ⟨u, hu0, hu, hpu⟩ := hrowL k x hx
      obtain ⟨adl, rfl, hb, hcl⟩ := hR.2 (by omega)
      have ca := hcl _ _ hu0
      have cb := hcl _ _ hu
      rw [← add_of_add] at cb
      obtain ⟨Au, cu, hue, huc⟩ := hpu.len
      subst hue
      have cb : wo.cell? ⟨(adl.add (k * 2)).block, (adl.add (k * 2)).off + 1, none⟩ = some (.slice (some Au) x.2.length cu) := cb
      obtain ⟨W1, hW1⟩ : ∃ W1, wo.alloc (.cells #[.int .i64 (x.1 : Int), .slice (some Au) x.2.length cu] 129) = W1 := ⟨_, rfl⟩
      have hb8 : Below wo.heap.size wo W1.drew := by rw [← hW1]; exact ((Below.refl _ _).alloc (Nat.le_refl _) _).drew
      have hD8 := hDr.below hb8
      have hpu8 := hpu.keep (w' := W1.drew) (ok' := ok) fun g C fr ho hg => ⟨hb8.block g (blk_lt hg), ho⟩
      have hxo := HWF.out.o1 x (List.mem_of_getElem? hx)
      obtain ⟨X, xb⟩ := x
      obtain ⟨q, hn⟩ : ∃ q, D.good.length = q := ⟨_, rfl⟩
      rw [hn] at hl2
      have hx1 : X < q := by rw [← hn]; exact hxo.1
      have HXL := Lib.hid (show xb.length = D.size from hxo.2)
      have hgl : (crashTo D ps k).good.length = q := (crashed_length _ _ _).trans hn
      obtain ⟨Ag, cg, csg, hGe, hoG, hGok, hrowG⟩ := hD8.good
      obtain ⟨l0, hl0⟩ : ∃ l, (crashTo D ps k).good[X]? = some l := ⟨_, List.getElem?_eq_getElem (by rw [hgl]; exact hx1)⟩
      obtain ⟨v0, hv0, hp0⟩ := hrowG X l0 hl0
      have hl0s : l0.length = D.size := hD8.wf.g2 l0 (List.mem_of_getElem? hl0)
      obtain ⟨A0, c0, hve, hsl0⟩ := hp0.sl
      subst hve
      obtain ⟨gG, cG, CG, hGe', hgC, c00, z00, _⟩ := own_set1 hoG (show X < (crashTo D ps k).good.length by rw [hgl]; exact hx1) (.slice none 0 0)
      rw [hgl] at hGe'
      rw [hGe'] at hGe
      have hgc2 : W1.cell? ⟨gG, X, none⟩ = some (.slice A0 l0.length c0) := by
        have := c00.trans hv0
        exact this
      subst hGe'
      have e2 : W1.cell? ⟨p, 2, none⟩ = some (.slice (some ⟨gG, 0, none⟩) q cG) := hD8.blk.cells.2.2.1
      have b0 : W1.cell? ⟨wo.heap.size, 0, none⟩ = some (.int .i64 (X : Int)) := by rw [← hW1]; simp
      have b1 : W1.cell? ⟨wo.heap.size, 1, none⟩ = some (.slice (some Au) xb.length cu) := by rw [← hW1]; simp
      have HBX := Lib.hid (show W1.heap[wo.heap.size]? = some (.cells #[.int .i64 (X : Int), .slice (some Au) xb.length cu] 129 (0, 0)) by rw [← hW1]; exact heap_alloc_new wo _)
      have bz : W1.heap.size = wo.heap.size + 1 := by rw [← hW1]; simp
      have HLEN := Lib.hid hgl
      have HX := Lib.hid hx
      have HL0 := Lib.hid hl0
      have HO := Lib.hid hoG
      have HPU := Lib.hid hpu8
      have HB8 := Lib.hid hb8
      have HDR := Lib.hid hDr
      have HPK := Lib.hid hpk
      have HL0S := Lib.hid hl0s
      rw [hl0s] at hgc2 hsl0
      clear hb8 hD8 hpu8 hxo hn hrowL hoL hR hcl hpu hx hDr hgl hu hu0 hL1 hgC hrowG hoG hGok hGe hl0 hv0 hp0 c00 z00 hpk
      go_wp2_with fail
      clear hW1
      refine wp_region_held_drew (S := (fun w' => w'.cell? ⟨p, 2, none⟩ = some (.slice (some ⟨gG, 0, none⟩) q cG) ∧ w'.cell? ⟨wo.heap.size, 0, none⟩ = some (.int .i64 (X : Int)) ∧ w'.cell? ⟨gG, X, none⟩ = some (.slice A0 D.size c0))) (by kernel_rfl) ?_ (fun hHeld => ?_)
      · first | exact ⟨e2, b0, hgc2⟩ | exact hkeep
      refine takeP (i := 0) rfl (by kernel_rfl) (by kernel_rfl) (by kernel_rfl) (fun _ _ _ h => h) (by rfl) (by assumption) (v := ?_) ?_ ?_
      rotate_left
      · intro w' hSw
        try dsimp only at hSw
        go_simp
        try with_reducible rfl
      try simp only [Act.put, List.setIfInBounds_toArray, List.set_cons_zero, List.set_cons_succ]
      refine takeP (i := 1) rfl (by kernel_rfl) (by kernel_rfl) (by kernel_rfl) (fun _ _ _ h => h) (by rfl) (by assumption) (v := ?_) ?_ ?_
      rotate_left
      · intro w' hSw
        try dsimp only at hSw
        go_simp
        try with_reducible rfl
      try simp only [Act.put, List.setIfInBounds_toArray, List.set_cons_zero, List.set_cons_succ]
      refine takeP (i := 2) rfl (by kernel_rfl) (by kernel_rfl) (by kernel_rfl) (fun _ _ _ h => h) (by rfl) (by assumption) (v := ?_) ?_ ?_
      rotate_left
      · intro w' hSw
        try dsimp only at hSw
        go_simp
        try with_reducible rfl
      try simp only [Act.put, List.setIfInBounds_toArray, List.set_cons_zero, List.set_cons_succ]
      refine takeP (i := 3) rfl (by kernel_rfl) (by kernel_rfl) (by kernel_rfl) (fun _ _ _ h => h) (by rfl) (by assumption) (v := ?_) ?_ ?_
      rotate_left
      · intro w' hSw
        try dsimp only at hSw
        go_simp
        try with_reducible rfl
      try simp only [Act.put, List.setIfInBounds_toArray, List.set_cons_zero, List.set_cons_succ]
      refine takeP (i := 4) rfl (by kernel_rfl) (by kernel_rfl) (by kernel_rfl) (fun _ _ _ h => h) (by rfl) (by assumption) (v := ?_) ?_ ?_
      rotate_left
      · intro w' hSw
        try dsimp only at hSw
        go_simp
        try with_reducible rfl
      try simp only [Act.put, List.setIfInBounds_toArray, List.set_cons_zero, List.set_cons_succ]
      refine takeP (i := 5) rfl (by kernel_rfl) (by kernel_rfl) (by kernel_rfl) (fun _ _ _ h => h) (by rfl) (by assumption) (v := ?_) ?_ ?_
      rotate_left
      · intro w' hSw
        try dsimp only at hSw
        go_simp
        try with_reducible rfl
      try simp only [Act.put, List.setIfInBounds_toArray, List.set_cons_zero, List.set_cons_succ]
      refine takeP (i := 6) rfl (by kernel_rfl) (by kernel_rfl) (by kernel_rfl) (fun _ _ _ h => h) (by rfl) (by assumption) (v := ?_) ?_ ?_
      rotate_left
      · intro w' hSw
        try dsimp only at hSw
        go_simp
        try with_reducible rfl
      try simp only [Act.put, List.setIfInBounds_toArray, List.set_cons_zero, List.set_cons_succ]
      refine takeP (i := 7) rfl (by kernel_rfl) (by kernel_rfl) (by kernel_rfl) (fun _ _ _ h => h) (by rfl) (by assumption) (v := ?_) ?_ ?_
      rotate_left
      · intro w' hSw
        try dsimp only at hSw
        go_simp
        try with_reducible rfl
      try simp only [Act.put, List.setIfInBounds_toArray, List.set_cons_zero, List.set_cons_succ]
      refine carryP (i := 8) rfl (by kernel_rfl) (by rfl) (fun K hK => ?_)
      go_simp
      refine (clone_any _ _ _ _ _ _ hsl0 (by have := HWF.out.s2; omega)).mono ?_
      rintro e w5 ⟨v5, he5, hown5, hb5⟩
      obtain ⟨g5, c5, hv5, hcb5, hcc5, hg5⟩ := CB.of_own hown5 (by have := HWF.out.s1; omega)
      subst hv5
      subst he5
      have hkeep : w5.cell? ⟨p, 2, none⟩ = some (.slice (some ⟨gG, 0, none⟩) q cG) ∧ w5.cell? ⟨wo.heap.size, 0, none⟩ = some (.int .i64 (X : Int)) ∧ w5.cell? ⟨gG, X, none⟩ = some (.slice A0 D.size c0) :=
        ⟨(hb5.cell (World.block_lt_of_cell? _ _ e2)).trans e2, (hb5.cell (World.block_lt_of_cell? _ _ b0)).trans b0, (hb5.cell (World.block_lt_of_cell? _ _ hgc2)).trans hgc2⟩
      refine hK.out _ _ ?_ (fun hHeld => ?_)
      · first | exact ⟨e2, b0, hgc2⟩ | exact hkeep
      clear hK K
      try simp only [Act.put, List.setIfInBounds_toArray, List.set_cons_zero, List.set_cons_succ]
      refine takeP (i := 9) rfl (by kernel_rfl) (by kernel_rfl) (by kernel_rfl) (fun _ _ _ h => h) (by rfl) (by assumption) (v := ?_) ?_ ?_
      rotate_left
      · intro w' hSw
        try dsimp only at hSw
        go_simp
        try with_reducible rfl
      try simp only [Act.put, List.setIfInBounds_toArray, List.set_cons_zero, List.set_cons_succ]
      refine wpAnyH_done (by kernel_rfl) ?_ _
      have hbx : w5.heap[wo.heap.size]? = some (.cells #[.int .i64 (X : Int), .slice (some Au) xb.length cu] 129 (0, 0)) := (hb5.block wo.heap.size (by show wo.heap.size < W1.heap.size; omega)).trans HBX.out
      have hb9 : Below wo.heap.size wo w5 := HB8.out.trans (hb5.mono (by show wo.heap.size ≤ W1.heap.size; omega))
      have hD5 := HDR.out.below hb9
      have d0 : w5.cell? ⟨p, 0, none⟩ = some (.int .i64 (D.size : Int)) := hD5.blk.cells.1
      have hpb := World.block_lt_of_cell? _ _ hpc
      have hg5' : wo.heap.size < g5 := by have : W1.heap.size ≤ g5 := hg5; omega
      have hcb5' : CB w5 g5 (mixTo pk l0 xb 0) := by rw [mixTo_zero]; exact hcb5
      have HB9 := Lib.hid hb9
      have HBX5 := Lib.hid hbx
      have HPU5 := Lib.hid (HPU.out.keep (w' := w5) (ok' := fun k => k ≠ g5) fun g C fr ho hg => ⟨hb5.block g (blk_lt hg), by have h1 : g < W1.heap.size := blk_lt hg; have h2 : W1.heap.size ≤ g5 := hg5; omega⟩)
      clear hown5 hb5 hkeep hbx hb9 hD5 hcb5 hg5 e2 b0 b1 hgc2 hsl0
      go_wp2_with fail
      rw [hdv]
      clear d0 hdv
      go_loopw [43] (fun i wr => ∃ s : Nat, s ≤ T ∧ i = .int .i64 (s : Int) ∧ CB wr g5 (mixTo pk l0 xb s) ∧ At g5 w5 wr) (fun i _ => T - (intOf i).toNat)
      case atStart => exact ⟨0, Nat.zero_le _, rfl, hcb5', At.refl _ _⟩
      case round =>
        obtain ⟨s, hs, rfl, hCB, hAi⟩ := hrel
        have hbw := HB9.out.trans (hAi.below (Nat.le_of_lt hg5') HB9.out.size)
        have hpci := (hbw.cell hpb).trans hpc
        have hbxi := (hAi.block wo.heap.size (blk_lt HBX5.out) (by intro e; injection e with e; omega)).trans HBX5.out
        obtain ⟨b0, b1, _, _⟩ := blk2 hbxi
        by_cases hst : s < T
        · have hpb := pick_bit pk s
          by_cases hpk : pickB pk (s * 128) = true
          · rw [hpk] at hpb
            have hsT : (s + 1) * 128 ≤ D.size := by have := HT.out; omega
            obtain ⟨hi6, hhi⟩ : ∃ hi6, (s + 1) * 128 = hi6 := ⟨_, rfl⟩
            have hPUi := HPU5.out.keep (w' := wr) (ok' := fun _ => True) fun g C fr ho hg => ⟨hAi.block g (blk_lt hg) (by intro e; injection e with e; exact ho e), trivial⟩
            obtain ⟨Au', cu', hue', hslu⟩ := hPUi.sl
            injection hue' with hue1 _ hue2
            subst hue1 hue2
            have hr6 := hslu.reads.cut (k := s * 128) (by rw [HXL.out]; omega) huc
            rw [if_neg (by rw [HXL.out] at huc; omega)] at hr6
            have HS6 := Lib.hid (show Sl wr wr.heap.size (some (Au.add (s * 128))) (xb.length - s * 128) (cu - s * 128) (xb.drop (s * 128)) from ⟨by simpa [bv, List.map_drop] using hr6, by rw [List.length_drop], by omega, fun h => by cases h⟩)
            obtain ⟨lo, hlo⟩ : ∃ lo, s * 128 = lo := ⟨_, rfl⟩
            have hi1 : hi6 = lo + 128 := by omega
            have hw1 : IntKind.i64.wrap ((s : Int) * 128) = (lo : Int) := by rw [show (s : Int) * 128 = (lo : Int) by omega]; exact IntWalk.i64_in _ (by omega)
            have hw0 : IntKind.i64.wrap ((s : Int) + 1) = (s : Int) + 1 := IntWalk.i64_in _ (by omega)
            have hw2 : IntKind.i64.wrap (IntKind.i64.wrap ((s : Int) + 1) * 128) = (hi6 : Int) := by rw [hw0, show ((s : Int) + 1) * 128 = (hi6 : Int) by omega]; exact IntWalk.i64_in _ (by omega)
            clear hw0
            have hc5n : ¬ c5 = lo := by omega
            have hcun : ¬ cu = lo := by rw [HXL.out] at huc; omega
            have hlox : lo ≤ xb.length := by rw [HXL.out]; omega
            have hhl : hi6 - lo = 128 := by omega
            have hhc : hi6 ≤ c5 := by omega
            have hloh : lo ≤ hi6 := by omega
            have hls : lo + 128 ≤ D.size := by omega
            clear hi1
            have hmx := mixTo_take pk l0 xb s (by rw [HXL.out, HL0S.out]) (by rw [HL0S.out]; exact hsT) hpk
            have HMX := Lib.hid hmx
            have hml : (mixTo pk l0 xb s).length = D.size := (mixTo_length _ _ _ _).trans HL0S.out
            have hxl6 : 128 ≤ xb.length - s * 128 := by rw [HXL.out]; omega
            rw [hlo] at HS6 HMX hxl6
            clear hmx hslu hPUi hpk hr6 hhi hlo
            go_wp2_with fail
            refine wp_region_held_drew (S := (fun w' => w'.cell? ⟨wo.heap.size, 1, none⟩ = some (.slice (some Au) xb.length cu))) (by kernel_rfl) ?_ (fun hHeld => ?_)
            · first | exact b1 | exact hkeep
            refine takeP (i := 0) rfl (by kernel_rfl) (by kernel_rfl) (by kernel_rfl) (fun _ _ _ h => h) (by rfl) (by assumption) (v := ?_) ?_ ?_
            rotate_left
            · intro w' hSw
              try dsimp only at hSw
              go_simp
              try with_reducible rfl
            try simp only [Act.put, List.setIfInBounds_toArray, List.set_cons_zero, List.set_cons_succ]
            refine takeP (i := 1) rfl (by kernel_rfl) (by kernel_rfl) (by kernel_rfl) (fun _ _ _ h => h) (by rfl) (by assumption) (v := ?_) ?_ ?_
            rotate_left
            · intro w' hSw
              try dsimp only at hSw
              go_simp
              try with_reducible rfl
            try simp only [Act.put, List.setIfInBounds_toArray, List.set_cons_zero, List.set_cons_succ]
            refine takeP (i := 2) rfl (by kernel_rfl) (by kernel_rfl) (by kernel_rfl) (fun _ _ _ h => h) (by rfl) (by assumption) (v := ?_) ?_ ?_
            rotate_left
            · intro w' hSw
              try dsimp only at hSw
              go_simp
              try with_reducible rfl
            try simp only [Act.put, List.setIfInBounds_toArray, List.set_cons_zero, List.set_cons_succ]
            refine takeP (i := 3) rfl (by kernel_rfl) (by kernel_rfl) (by kernel_rfl) (fun _ _ _ h => h) (by rfl) (by assumption) (v := ?_) ?_ ?_
            rotate_left
            · intro w' hSw
              try dsimp only at hSw
              go_simp
              try with_reducible rfl
            try simp only [Act.put, List.setIfInBounds_toArray, List.set_cons_zero, List.set_cons_succ]
            refine takeP (i := 4) rfl (by kernel_rfl) (by kernel_rfl) (by kernel_rfl) (fun _ _ _ h => h) (by rfl) (by assumption) (v := ?_) ?_ ?_
            rotate_left
            · intro w' hSw
              try dsimp only at hSw
              go_simp
              try with_reducible rfl
            try simp only [Act.put, List.setIfInBounds_toArray, List.set_cons_zero, List.set_cons_succ]
            refine takeP (i := 5) rfl (by kernel_rfl) (by kernel_rfl) (by kernel_rfl) (fun _ _ _ h => h) (by rfl) (by assumption) (v := ?_) ?_ ?_
            rotate_left
            · intro w' hSw
              try dsimp only at hSw
              go_simp
              try with_reducible rfl
            try simp only [Act.put, List.setIfInBounds_toArray, List.set_cons_zero, List.set_cons_succ]
            refine takeP (i := 6) rfl (by kernel_rfl) (by kernel_rfl) (by kernel_rfl) (fun _ _ _ h => h) (by rfl) (by assumption) (v := ?_) ?_ ?_
            rotate_left
            · intro w' hSw
              try dsimp only at hSw
              go_simp
              try with_reducible rfl
            try simp only [Act.put, List.setIfInBounds_toArray, List.set_cons_zero, List.set_cons_succ]
            refine takeP (i := 7) rfl (by kernel_rfl) (by kernel_rfl) (by kernel_rfl) (fun _ _ _ h => h) (by rfl) (by assumption) (v := ?_) ?_ ?_
            rotate_left
            · intro w' hSw
              try dsimp only at hSw
              go_simp
              try with_reducible rfl
            try simp only [Act.put, List.setIfInBounds_toArray, List.set_cons_zero, List.set_cons_succ]
            refine takeP (i := 8) rfl (by kernel_rfl) (by kernel_rfl) (by kernel_rfl) (fun _ _ _ h => h) (by rfl) (by assumption) (v := ?_) ?_ ?_
            rotate_left
            · intro w' hSw
              try dsimp only at hSw
              go_simp
              try with_reducible rfl
            try simp only [Act.put, List.setIfInBounds_toArray, List.set_cons_zero, List.set_cons_succ]
            refine takeP (i := 9) rfl (by kernel_rfl) (by kernel_rfl) (by kernel_rfl) (fun _ _ _ h => h) (by rfl) (by assumption) (v := ?_) ?_ ?_
            rotate_left
            · intro w' hSw
              try dsimp only at hSw
              go_simp
              try with_reducible rfl
            try simp only [Act.put, List.setIfInBounds_toArray, List.set_cons_zero, List.set_cons_succ]
            refine takeP (i := 10) rfl (by kernel_rfl) (by kernel_rfl) (by kernel_rfl) (fun _ _ _ h => h) (by rfl) (by assumption) (v := ?_) ?_ ?_
            rotate_left
            · intro w' hSw
              try dsimp only at hSw
              go_simp
              try with_reducible rfl
            try simp only [Act.put, List.setIfInBounds_toArray, List.set_cons_zero, List.set_cons_succ]
            refine takeP (i := 11) rfl (by kernel_rfl) (by kernel_rfl) (by kernel_rfl) (fun _ _ _ h => h) (by rfl) (by assumption) (v := ?_) ?_ ?_
            rotate_left
            · intro w' hSw
              try dsimp only at hSw
              go_simp
              try with_reducible rfl
            try simp only [Act.put, List.setIfInBounds_toArray, List.set_cons_zero, List.set_cons_succ]
            refine carryP (i := 12) rfl (by kernel_rfl) (by rfl) (fun K hK => ?_)
            refine wp_copy_cb (.tmp 61) (.tmp 66) 30 30 rfl Try.underlying30 (by rw [ui0]; simp [uz1]) g5 lo 128 (c5 - lo) (some (Au.add lo)) (xb.length - lo) (cu - lo) (by rfl) (by rfl) _ _ hCB _ (HS6.out.same (w' := wr.drew) (fun _ _ => rfl)) 128 (by omega) (by omega) (by rw [hml]; exact hls) ?_
            intro w7 hCB7 hA7
            rw [← HMX.out] at hCB7
            have hkeep : w7.cell? ⟨wo.heap.size, 1, none⟩ = some (.slice (some Au) xb.length cu) := (World.cell?_of_block (hA7.block wo.heap.size (blk_lt hbxi) (by intro e; injection e with e; omega))).trans b1
            refine hK.out _ _ ?_ (fun hHeld => ?_)
            · first | exact b1 | exact hkeep
            clear hK K
            try simp only [Act.put, List.setIfInBounds_toArray, List.set_cons_zero, List.set_cons_succ]
            refine wpAnyH_done (by kernel_rfl) ?_ _
            go_wp2_with fail
            exact ⟨⟨s + 1, by omega, by go_num, hCB7, hAi.drew.trans hA7⟩, by simp [intOf]; omega⟩
          · have hpk' : pickB pk (s * 128) = false := by simpa using hpk
            rw [hpk'] at hpb
            have hmx := mixTo_skip pk l0 xb s hpk'
            have HCB := Lib.hid (show CB wr g5 (mixTo pk l0 xb (s + 1)) by rw [hmx]; exact hCB)
            clear hmx hpk hpk'
            go_wp2_with fail
            exact ⟨⟨s + 1, by omega, by go_num, HCB.out, hAi⟩, by simp [intOf]; omega⟩
        · obtain rfl : s = T := by omega
          have hDi := HDR.out.below hbw
          have hpgi : PgAt wr.drew ok (.slice (some ⟨g5, 0, none⟩) D.size c5) (mixTo pk l0 xb s) := hCB.pg (hfr g5 (by omega)) ((mixTo_length _ _ _ _).trans HL0S.out) hcc5
          obtain ⟨gG', cG', C, hGe, hgp, hgC, ⟨u0, c00⟩, z00, hD9, hF9⟩ := hDi.drew.setgood (i := X) (by rw [HLEN.out]; exact hx1) hpgi ((mixTo_length _ _ _ _).trans HL0S.out)
          rw [HLEN.out] at hGe
          obtain ⟨rfl, rfl⟩ : gG = gG' ∧ cG = cG' := by simpa using hGe
          have hme : mixTo pk l0 xb s = mixed pk ((crashTo D ps k).good.getD X []) xb := by
            rw [show (crashTo D ps k).good.getD X [] = l0 from by simp [List.getD, HL0.out]]
            unfold mixed
            rw [HL0S.out, HT.out, Nat.mul_div_cancel _ (by omega)]
          rw [hme, crashTo_succ D ps HX.out HPK.out] at hD9
          have HD9 := Lib.hid hD9
          have HF9 := Lib.hid ((hFr.trans (Fr.of_below hbw)).trans hF9)
          have e2 : wr.cell? ⟨p, 2, none⟩ = some (.slice (some ⟨gG, 0, none⟩) q cG) := hDi.blk.cells.2.2.1
          have c00 : wr.cell? ⟨gG, X, none⟩ = some u0 := c00
          have z00 : wr.frozen? ⟨gG, X, none⟩ = false := z00
          have hgz : gG ≠ wo.heap.size := fun e => by
            have h1 : wr.heap[gG]? = some (.cells C 30 (0, 0)) := hgC
            rw [e, hbxi] at h1
            injection h1 with h1
            injection h1 with _ h1
            exact absurd h1 (by decide)
          clear hDi hpgi hD9 hF9 hme hgC hCB hAi hbw
          go_wp2_with fail
          refine wp_region_held_drew (S := (fun w' => w'.cell? ⟨p, 2, none⟩ = some (.slice (some ⟨gG, 0, none⟩) q cG) ∧ w'.cell? ⟨wo.heap.size, 0, none⟩ = some (.int .i64 (X : Int)))) (by kernel_rfl) ?_ (fun hHeld => ?_)
          · first | exact ⟨e2, b0⟩ | exact ⟨by go_simp, by go_simp⟩
          refine takeP (i := 0) rfl (by kernel_rfl) (by kernel_rfl) (by kernel_rfl) (fun _ _ _ h => h) (by rfl) (by assumption) (v := ?_) ?_ ?_
          rotate_left
          · intro w' hSw
            try dsimp only at hSw
            go_simp
            try with_reducible rfl
          try simp only [Act.put, List.setIfInBounds_toArray, List.set_cons_zero, List.set_cons_succ]
          refine takeP (i := 1) rfl (by kernel_rfl) (by kernel_rfl) (by kernel_rfl) (fun _ _ _ h => h) (by rfl) (by assumption) (v := ?_) ?_ ?_
          rotate_left
          · intro w' hSw
            try dsimp only at hSw
            go_simp
            try with_reducible rfl
          try simp only [Act.put, List.setIfInBounds_toArray, List.set_cons_zero, List.set_cons_succ]
          refine takeP (i := 2) rfl (by kernel_rfl) (by kernel_rfl) (by kernel_rfl) (fun _ _ _ h => h) (by rfl) (by assumption) (v := ?_) ?_ ?_
          rotate_left
          · intro w' hSw
            try dsimp only at hSw
            go_simp
            try with_reducible rfl
          try simp only [Act.put, List.setIfInBounds_toArray, List.set_cons_zero, List.set_cons_succ]
          refine takeP (i := 3) rfl (by kernel_rfl) (by kernel_rfl) (by kernel_rfl) (fun _ _ _ h => h) (by rfl) (by assumption) (v := ?_) ?_ ?_
          rotate_left
          · intro w' hSw
            try dsimp only at hSw
            go_simp
            try with_reducible rfl
          try simp only [Act.put, List.setIfInBounds_toArray, List.set_cons_zero, List.set_cons_succ]
          refine takeP (i := 4) rfl (by kernel_rfl) (by kernel_rfl) (by kernel_rfl) (fun _ _ _ h => h) (by rfl) (by assumption) (v := ?_) ?_ ?_
          rotate_left
          · intro w' hSw
            try dsimp only at hSw
            go_simp
            try with_reducible rfl
          try simp only [Act.put, List.setIfInBounds_toArray, List.set_cons_zero, List.set_cons_succ]
          refine takeP (i := 5) rfl (by kernel_rfl) (by kernel_rfl) (by kernel_rfl) (fun _ _ _ h => h) (by rfl) (by assumption) (v := ?_) ?_ ?_
          rotate_left
          · intro w' hSw
            try dsimp only at hSw
            go_simp
            try with_reducible rfl
          try simp only [Act.put, List.setIfInBounds_toArray, List.set_cons_zero, List.set_cons_succ]
          refine takeP (i := 6) rfl (by kernel_rfl) (by kernel_rfl) (by kernel_rfl) (fun _ _ _ h => h) (by rfl) (by assumption) (v := ?_) ?_ ?_
          rotate_left
          · intro w' hSw
            try dsimp only at hSw
            go_simp
            try with_reducible rfl
          try simp only [Act.put, List.setIfInBounds_toArray, List.set_cons_zero, List.set_cons_succ]
          refine takeP (i := 7) rfl (by kernel_rfl) (by kernel_rfl) (by kernel_rfl) (fun _ _ _ h => h) (by rfl) (by assumption) (v := ?_) ?_ ?_
          rotate_left
          · intro w' hSw
            try dsimp only at hSw
            go_simp
            try with_reducible rfl
          try simp only [Act.put, List.setIfInBounds_toArray, List.set_cons_zero, List.set_cons_succ]
          refine carryP (i := 8) rfl (by kernel_rfl) (by rfl) (fun K hK => ?_)
          go_simp
          refine hK.out _ _ ?_ (fun hHeld => ?_)
          · first | exact ⟨e2, b0⟩ | exact ⟨by go_simp, by go_simp⟩
          clear hK K
          try simp only [Act.put, List.setIfInBounds_toArray, List.set_cons_zero, List.set_cons_succ]
          refine wpAnyH_done (by kernel_rfl) ?_ _
          go_wp2_with fail
          exact ⟨⟨k + 1, by omega, by go_num, HD9.out, HF9.out⟩, by simp [intOf]; omega⟩
    · obtain rfl : k = mn := by omega
      have hD9 := hDr.crashEnd
      have HD9 := Lib.hid (show DiskAt _ base ok p (D.crash ps) from ⟨_, _, _, _, by
        have e : ({ crashTo D ps k with loose := [], fails := -1 } : Dk) = D.crash ps := by
          unfold crashTo Dk.crash
          rw [show k = min D.loose.length ps.length by rw [HMM.out, hpl, HMN.out], crashed_take_all]
        rw [e] at hD9
        exact hD9⟩)
      have HF9 := Lib.hid ((hFr.set hDr.okp 3 (.slice none 0 0)).set hDr.okp 4 (.int .i64 (-1)))
      obtain ⟨_, _, _, e3, e4, _⟩ := hDr.blk.cells
      have z3 := hDr.blk.free 3
      have z4 := hDr.blk.free 4
      clear hD9 hDr hFr
      go_wp2_with fail
      go_end0
      exact ⟨rfl, HD9.out, HF9.out⟩

end Go.Proofs.Ythijobbhpbklmaa
