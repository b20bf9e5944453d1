/- Layer 5's helper entries. -/
import Derived.Test.YtmljfjmceakahaaBEntP
import Derived.Test.YtmljfjmceakahaaRegion
import Derived.Deep.DeepCutAuto
namespace Go.Proofs.Ytmljfjmceakahaa
open Go.RowKit
set_option linter.unusedVariables false
set_option linter.unusedSimpArgs false

/-- What entries gives. -/
def EntP (w : World) (r : Ending) (w' : World) : Prop :=
  ∃ (es : List (List UInt8 × Nat)) (Al : Option Addr) (cl : Nat) (Aw : Option Addr) (cw : Nat), r = .returned (.tuple #[.slice Al es.length cl, .slice Aw es.length cw]) ∧ es.length ≤ 30 ∧ E32 es ∧ (∀ e ∈ es, e.1.length ≤ 120) ∧
    Ents w' w'.heap.size Al es.length es ∧ REnts w' w'.heap.size Aw es.length es ∧ Below w.heap.size w w'

/-- What stands behind the making of x: its box at q. -/
def ECut (w : World) (q m x : Nat) (Av : Option Addr) (cv : Nat) (es : List (List UInt8 × Nat)) (s9 : Value) (W : World) : Prop :=
  ∃ kx : List UInt8, s9 = .pointer (some ⟨q, 0, none⟩) ∧ kx.length ≤ 120 ∧ W.heap[q]? = some (.cells #[.string (st kx), .int .u32 (x : Int)] 48 (0, 0)) ∧ Below w.heap.size w W ∧ W.ownsRow w.heap.size 48 2 (.slice Av m cv) m (RCs es) ∧ REnts W q Av m es ∧ q < W.heap.size
theorem ECut.mk {w wr : World} {m x : Nat} {Av : Option Addr} {cv : Nat} {es : List (List UInt8 × Nat)} (hown : wr.ownsRow w.heap.size 48 2 (.slice Av m cv) m (RCs es)) (h32 : E32 es) (hbw : Below w.heap.size w wr) (q : Nat) (hq : wr.heap.size = q) (t : List UInt8) (ht : t.length ≤ 120) :
    ECut w q m x Av cv es (.pointer (some ⟨q, 0, none⟩)) (wr.alloc (.cells #[.string ⟨t.toArray⟩, .int .u32 (x : Int)] 48)).drew := by
  subst hq
  exact ⟨t, rfl, ht, heap_alloc_new wr _, (hbw.alloc hbw.size _).drew, hown.alloc _, (rents_own hown h32).below (((Below.refl _ _).alloc (Nat.le_refl _) _).drew), by simp⟩

set_option maxRecDepth 100000 in
set_option maxHeartbeats 4000000 in
theorem entries_t (w : World) (B : Nat) (A : Option Addr) (n c : Nat) (rs : List (List UInt8 × Nat)) (h : Ents w B A n rs) (hBw : B ≤ w.heap.size) (hn : n ≤ 30) (hk : ∀ e ∈ rs, e.1.length ≤ 120) :
    Calls Try.prog 16 #[.slice A n c, .bool true] w (EntP w) := by
  obtain ⟨ie, ei0, ez0, ez1, ez2⟩ := info_parts info_e
  obtain ⟨ib, bi0, bz0, bz1, bz2⟩ := info_parts info_ent
  go_enter Try.func16, Try.ntmps16
  go_wp2_with fail
  go_loopw [7, 8] (fun v i wr => ∃ (k : Nat) (es : List (List UInt8 × Nat)) (Av : Option Addr) (cv m : Nat), i = .int .i64 (k : Int) ∧ k ≤ n ∧ v = .slice Av m cv ∧ es.length = m ∧ m ≤ k ∧ wr.ownsRow w.heap.size 48 2 (.slice Av m cv) m (RCs es) ∧ E32 es ∧ (∀ e ∈ es, e.1.length ≤ 120) ∧ Below w.heap.size w wr) (fun _ i _ => n - (intOf i).toNat)
  case atStart => exact ⟨0, [], none, 0, 0, rfl, Nat.zero_le _, rfl, rfl, Nat.le_refl _, World.ownsRow_nil _ _ _ _, by simp [E32], by simp, Below.refl _ _⟩
  case round =>
    obtain ⟨k, es, Av, cv, m, rfl, hkn, rfl, hm, hmk, hown, h32, hk120, hbw⟩ := hrel
    have HM := Lib.hid hm
    clear hm
    by_cases hlt : k < n
    · have hbs := hbw.size
      obtain ⟨ky, x, ad, Ak, nk, ck, he, hx, rfl, hB, a0, a1, hsl⟩ := (h.below (hbw.mono hBw)).at_ hlt
      have a1 : wr.cell? ⟨(ad.add (k * 2)).block, (ad.add (k * 2)).off + 1, none⟩ = some (.int .u32 x) := a1
      have hky := hk _ (List.mem_of_getElem? he)
      have hcv := string_of_sl (P := Try.prog) Try.underlying23 Try.underlying5 Try.underlying9 hsl
      have hKS : ∀ w' : World, Below B wr w' → w'.cell? (ad.add (k * 2)) = some (.slice Ak nk ck) ∧ w'.cell? ⟨(ad.add (k * 2)).block, (ad.add (k * 2)).off + 1, none⟩ = some (.int .u32 (x : Int)) ∧ (convert 23 9 (.slice Ak nk ck)).run Try.prog w' = .ok (.string ⟨ky.toArray⟩) w' := fun w' hw' =>
        ⟨(hw'.cell (p := ad.add (k * 2)) (by rw [block_of_add]; exact hB)).trans a0, (hw'.cell (p := ⟨(ad.add (k * 2)).block, (ad.add (k * 2)).off + 1, none⟩) (by show (ad.add (k * 2)).block < B; rw [block_of_add]; exact hB)).trans a1, string_of_sl (P := Try.prog) Try.underlying23 Try.underlying5 Try.underlying9 (hsl.below hw')⟩
      have hBq : B ≤ wr.heap.size := Nat.le_trans hBw hbs
      have HKS := Lib.hid hKS
      clear hKS
      obtain ⟨q, hq⟩ : ∃ q, wr.heap.size = q := ⟨_, rfl⟩
      have HFIN := Lib.hid (ECut.mk (x := x) hown h32 hbw q hq)
      clear hcv
      go_wp2_with fail
      go_region_held3 (fun w' => w'.cell? (ad.add (k * 2)) = some (.slice Ak nk ck) ∧ w'.cell? ⟨(ad.add (k * 2)).block, (ad.add (k * 2)).off + 1, none⟩ = some (.int .u32 (x : Int)) ∧ (convert 23 9 (.slice Ak nk ck)).run Try.prog w' = .ok (.string ⟨ky.toArray⟩) w') (first | exact HKS.out _ (Below.refl _ _).drew | exact HKS.out _ ((Below.refl _ _).alloc hBq _).drew | exact HKS.out _ (((Below.refl _ _).alloc hBq _).setCell (by simp; omega) _).drew | (trace_state; fail)) (fail)
      go_upto_if 36 with fail
      go_cut [9] (fun s9 W => ECut w q m x Av cv es s9 W)
      case first =>
        go_wp2_with fail
        all_goals (go_meet; first | exact HFIN.out [] (by simp) | exact HFIN.out ky hky)
      case rest =>
        obtain ⟨kx, rfl, hkx, hbox, hbW, hownW, hEW, hqW⟩ := hcut
        obtain ⟨tx, htx⟩ : ∃ tx, st kx = tx := ⟨_, rfl⟩
        rw [htx] at hbox
        have HTX := Lib.hid htx
        clear htx
        have hx0 := blk_cell hbox 0
        simp only [List.getElem?_toArray, List.getElem?_cons_zero] at hx0
        go_wp2_with fail
        go_loopw [10, 11] (fun s10 s11 W2 => ∃ p j d : Nat, s10 = .int .i64 (p : Int) ∧ s11 = .int .i64 (j : Int) ∧ p ≤ m ∧ j ≤ m ∧ W2 = wc.drewN d) (fun _ s11 _ => m - (intOf s11).toNat)
        case atStart => exact ⟨m, 0, 0, rfl, rfl, Nat.le_refl _, Nat.zero_le _, rfl⟩
        case round =>
          obtain ⟨p, j, d, rfl, rfl, hpm, hjm, rfl⟩ := hrel
          by_cases hjlt : j < m
          · obtain ⟨kj, xj, ad2, hej, hxj, rfl, hB2, b0, b1⟩ := hEW.at_ hjlt
            generalize st kj = tj at b0
            have hj1 : j + 1 ≤ m := hjlt
            rcases hbb : Op.bytesLess tj.toList tx.toList with _ | _
            · by_cases hjp : j < p
              · have hjpd : decide (j < p) = true := decide_eq_true hjp
                clear b1 hej
                go_wp2_with fail
                go_quiet (fail)
                go_wp2
                go_roundw
                case rel => exact ⟨j, j + 1, _, rfl, by go_num, by omega, hj1, rfl⟩
                case measure => simp [intOf]; omega
              · have hjpd : decide (j < p) = false := decide_eq_false hjp
                clear b1 hej
                go_wp2_with fail
                go_quiet (fail)
                go_wp2
                go_roundw
                case rel => exact ⟨p, j + 1, _, rfl, by go_num, by omega, hj1, rfl⟩
                case measure => simp [intOf]; omega
            · clear b1 hej
              go_wp2_with fail
              go_quiet (fail)
              go_wp2
              go_roundw
              case rel => exact ⟨p, j + 1, _, rfl, by go_num, by omega, hj1, rfl⟩
              case measure => simp [intOf]; omega
          · obtain rfl : j = m := by omega
            go_upto_region 15 with fail
            go_cut [79] (fun s79 W3 => ∃ (bb : Bool) (d3 : Nat), s79 = .bool bb ∧ W3 = wc.drewN d3)
            case first =>
              by_cases hpm' : p < j
              · have hpd : decide (p < j) = true := decide_eq_true hpm'
                obtain ⟨kj, xj, ad2, hej, hxj, rfl, hB2, b0, b1⟩ := hEW.at_ hpm'
                generalize st kj = tj at b0
                clear b1 hej
                rcases hbb : (tj.toList == tx.toList) with _ | _
                all_goals
                  go_wp2_with fail
                  go_quiet (fail)
                  go_wp2
                  go_meet
                  exact ⟨_, _, rfl, World.drewN_drewN _ _ _⟩
              · have hpd : decide (p < j) = false := decide_eq_false hpm'
                go_wp2_with fail
                go_quiet (fail)
                go_wp2
                go_meet
                exact ⟨_, _, rfl, World.drewN_drewN _ _ _⟩
            case rest =>
              obtain ⟨bb, d3, rfl, rfl⟩ := hcut
              cases bb with
              | true =>
                go_wp2_with fail
                refine ⟨⟨k + 1, es, Av, cv, j, by go_num, by omega, rfl, HM.out, by omega, hownW, h32, hk120, below_drewN hbW _⟩, by simp [intOf]; omega⟩
              | false =>
                have hcv := hownW.2
                have hjc : j ≤ cv := by
                  rcases hownW.2 with ⟨hv, h0⟩ | ⟨_, _, _, hv, _, _, hc, _⟩
                  · omega
                  · cases hv; exact hc
                clear hcv
                obtain ⟨A1, hcut1, hrd1⟩ := cut_hN (P := Try.prog) 27 48 .i64 2 Try.underlying27 ei0 ez1 Av j cv p hpm hjc
                obtain ⟨A3, hcut3, hrd3⟩ := cut_lN (P := Try.prog) 27 48 .i64 2 Try.underlying27 ei0 ez1 Av j cv p hpm
                have hR1 := hrd1 _ _ _ (Reads.of_own hownW)
                have hR3 := hrd3 _ _ _ hjc (Reads.of_own hownW)
                rw [RCs_take] at hR1
                rw [RCs_drop] at hR3
                have hz0 : wc.heap.size = (wc.drewN d3).heap.size := rfl
                have hj30 : j ≤ 30 := by omega
                obtain ⟨r3, hr3⟩ : ∃ r3, j - p = r3 := ⟨_, rfl⟩
                rw [hr3] at hR3 hcut3
                have hr30 : r3 ≤ 30 := by omega
                clear hrd1 hrd3
                go_wp2_with (first
                  | (at_builtin; refine wpList_append_any _ rfl (.tmp 80) (.tmp 83) _ rfl wc.heap.size 48 ie _ 2 24 Try.underlying27 ei0 ez0 ez1 ez2 rfl (by omega) (.slice none 0 0) 0 [] rfl (World.ownsRow_nil _ _ _ _) wc.heap.size A1 p cv _ rfl (hR1.drewN d3) (RCs_one _) (by unfold maxLen; omega) (by omega) (Nat.le_of_eq hz0) ?_; intro v1 w1 hown1 hg1 hat1; simp only [Nat.zero_add, List.nil_append] at hown1; obtain ⟨B1, c1, rfl⟩ := own_slice hown1; have hbl1 : Below wc.heap.size wc w1 := (below_drewN (Below.refl wc.heap.size wc) d3).grown hg1 (Nat.le_of_eq hz0) (fun k hk => by cases hk); obtain ⟨x10, x11, _, _⟩ := blk2 (blk_below hbox hbl1 hqW); clear hg1 hat1)
                  | (at_builtin; refine wpList_append_any _ rfl (.tmp 85) (.tmp 87) _ rfl wc.heap.size 48 ie _ 2 24 Try.underlying27 ei0 ez0 ez1 ez2 rfl (by omega) (.slice B1 p c1) p _ rfl (hown1.alloc _) (w1.heap.size + 1) (some ⟨w1.heap.size, 0, none⟩) 1 1 [.string tx, .int .u32 (x : Int)] rfl (Reads.two _ _ _ _) (by simp [Value.oneCell']) (by unfold maxLen; omega) (by omega) (by have := hbl1.size; simp; omega) ?_; intro v2 w2 hown2 hg2 hat2; obtain ⟨B2, c2, rfl⟩ := own_slice hown2; have hbl2 : Below wc.heap.size wc w2 := (hbl1.alloc hbl1.size _).grown hg2 (by have := hbl1.size; simp; omega) (fun k hk => own_base hown1 k hk); clear hg2 hat2)
                  | (at_builtin; refine wpList_append_any _ rfl (.tmp 89) (.tmp 92) _ rfl wc.heap.size 48 ie _ 2 24 Try.underlying27 ei0 ez0 ez1 ez2 rfl (by omega) (.slice B2 (p + 1) c2) (p + 1) _ rfl hown2 wc.heap.size A3 r3 (cv - p) _ rfl (hR3.below hbl2) (RCs_one _) (by unfold maxLen; omega) (by omega) hbl2.size ?_; intro v3 w3 hown3 hg3 hat3; obtain ⟨B3, c3, rfl⟩ := own_slice hown3; have hbl3 : Below wc.heap.size wc w3 := hbl2.grown hg3 hbl2.size (fun k hk => own_base hown2 k hk); clear hg3 hat3))
                have hM := HM.out
                have hzz := hbW.size
                refine ⟨⟨k + 1, es.take p ++ [(kx, x)] ++ es.drop p, B3, c3, p + 1 + r3, by go_num, by omega, rfl, by simp; omega, by omega, own_weaken (by rw [RCs_append, RCs_append, show RCs [(kx, x)] = [.string tx, .int .u32 (x : Int)] from by rw [← HTX.out]; rfl]; exact hown3) hzz, ?_, ?_, hbW.trans (hbl3.mono hzz)⟩, by simp [intOf]; omega⟩
                · intro e he
                  simp only [List.mem_append, List.mem_singleton] at he
                  rcases he with (he | rfl) | he
                  · exact h32 _ (List.mem_of_mem_take he)
                  · exact hx
                  · exact h32 _ (List.mem_of_mem_drop he)
                · intro e he
                  simp only [List.mem_append, List.mem_singleton] at he
                  rcases he with (he | rfl) | he
                  · exact hk120 _ (List.mem_of_mem_take he)
                  · exact hkx
                  · exact hk120 _ (List.mem_of_mem_drop he)
    · obtain ⟨wo, rfl⟩ : ∃ wo : World, wo = wr := ⟨_, rfl⟩
      have hE := rents_own hown h32
      have hm30 : m ≤ 30 := by omega
      have hbs := hbw.size
      have hcl : True := trivial
      clear h hk
      go_wp2_with fail
      go_loopw [6, 13] (fun v i w2 => ∃ (j : Nat) (Al : Option Addr) (cl : Nat) (cs : List Value), i = .int .i64 (j : Int) ∧ j ≤ m ∧ v = .slice Al j cl ∧ w2.ownsRow wo.heap.size 46 2 (.slice Al j cl) j cs ∧ EPk w2 cs (es.take j) ∧ Below wo.heap.size wo w2) (fun _ i _ => m - (intOf i).toNat)
      case atStart => exact ⟨0, none, 0, [], rfl, Nat.zero_le _, rfl, World.ownsRow_nil _ _ _ _, EPk.nil_ _, Below.refl _ _⟩
      case round =>
        obtain ⟨j, Al, cl, cs, rfl, hjm, rfl, hownl, hep, hb2⟩ := hrel
        by_cases hjlt : j < m
        · obtain ⟨kj, xj, ad2, hej, hxj, rfl, hB2, b0, b1⟩ := (hE.below hb2).at_ hjlt
          have b1 : wr.cell? ⟨(ad2.add (j * 2)).block, (ad2.add (j * 2)).off + 1, none⟩ = some (.int .u32 (xj : Int)) := b1
          have hS : ∀ w' : World, Below wo.heap.size wr.drew w' → w'.cell? (ad2.add (j * 2)) = some (.string (st kj)) ∧ w'.cell? ⟨(ad2.add (j * 2)).block, (ad2.add (j * 2)).off + 1, none⟩ = some (.int .u32 (xj : Int)) := fun w' hw' =>
            ⟨(hw'.cell (p := ad2.add (j * 2)) (by rw [block_of_add]; exact hB2)).trans b0, (hw'.cell (p := ⟨(ad2.add (j * 2)).block, (ad2.add (j * 2)).off + 1, none⟩) (by show (ad2.add (j * 2)).block < _; rw [block_of_add]; exact hB2)).trans b1⟩
          have HS := Lib.hid hS
          have HEJ := Lib.hid hej
          clear hS b0 b1 hej
          go_wp2_with fail
          -- MOVES BEGIN
          refine wp_region_held_drew (S := (fun w' => w'.cell? (ad2.add (j * 2)) = some (.string (st kj)) ∧ w'.cell? ⟨(ad2.add (j * 2)).block, (ad2.add (j * 2)).off + 1, none⟩ = some (.int .u32 (xj : Int)))) (by kernel_rfl) ?_ (fun hHeld => ?_)
          · exact HS.out _ (by first | assumption | exact Below.refl _ _)
          refine takeP (i := 0) rfl (by kernel_rfl) (by kernel_rfl) (by kernel_rfl) (fun _ _ _ h => h) (by rfl) (by assumption) (v := ?_) ?_ ?_
          rotate_left
          · intro w' hSw
            try dsimp only at hSw
            go_simp
            try with_reducible rfl
          try simp only [Act.put, List.setIfInBounds_toArray, List.set_cons_zero, List.set_cons_succ]
          refine takeP (i := 1) rfl (by kernel_rfl) (by kernel_rfl) (by kernel_rfl) (fun _ _ _ h => h) (by rfl) (by assumption) (v := ?_) ?_ ?_
          rotate_left
          · intro w' hSw
            try dsimp only at hSw
            go_simp
            try with_reducible rfl
          try simp only [Act.put, List.setIfInBounds_toArray, List.set_cons_zero, List.set_cons_succ]
          refine takeP (i := 2) rfl (by kernel_rfl) (by kernel_rfl) (by kernel_rfl) (fun _ _ _ h => h) (by rfl) (by assumption) (v := ?_) ?_ ?_
          rotate_left
          · intro w' hSw
            try dsimp only at hSw
            go_simp
            try with_reducible rfl
          try simp only [Act.put, List.setIfInBounds_toArray, List.set_cons_zero, List.set_cons_succ]
          refine takeP (i := 3) rfl (by kernel_rfl) (by kernel_rfl) (by kernel_rfl) (fun _ _ _ h => h) (by rfl) (by assumption) (v := ?_) ?_ ?_
          rotate_left
          · intro w' hSw
            try dsimp only at hSw
            go_simp
            try with_reducible rfl
          try simp only [Act.put, List.setIfInBounds_toArray, List.set_cons_zero, List.set_cons_succ]
          refine takeP (i := 4) rfl (by kernel_rfl) (by kernel_rfl) (by kernel_rfl) (fun _ _ _ h => h) (by rfl) (by assumption) (v := ?_) ?_ ?_
          rotate_left
          · intro w' hSw
            try dsimp only at hSw
            go_simp
            try with_reducible rfl
          try simp only [Act.put, List.setIfInBounds_toArray, List.set_cons_zero, List.set_cons_succ]
          refine takeP (i := 5) rfl (by kernel_rfl) (by kernel_rfl) (by kernel_rfl) (fun _ _ _ h => h) (by rfl) (by assumption) (v := ?_) ?_ ?_
          rotate_left
          · intro w' hSw
            try dsimp only at hSw
            go_simp
            try with_reducible rfl
          try simp only [Act.put, List.setIfInBounds_toArray, List.set_cons_zero, List.set_cons_succ]
          refine takeP (i := 7) rfl (by kernel_rfl) (by kernel_rfl) (by kernel_rfl) (fun _ _ _ h => h) (by rfl) (by assumption) (v := ?_) ?_ ?_
          rotate_left
          · intro w' hSw
            try dsimp only at hSw
            go_simp
            try with_reducible rfl
          try simp only [Act.put, List.setIfInBounds_toArray, List.set_cons_zero, List.set_cons_succ]
          refine takeP (i := 8) rfl (by kernel_rfl) (by kernel_rfl) (by kernel_rfl) (fun _ _ _ h => h) (by rfl) (by assumption) (v := ?_) ?_ ?_
          rotate_left
          · intro w' hSw
            try dsimp only at hSw
            go_simp
            try with_reducible rfl
          try simp only [Act.put, List.setIfInBounds_toArray, List.set_cons_zero, List.set_cons_succ]
          refine takeP (i := 9) rfl (by kernel_rfl) (by kernel_rfl) (by kernel_rfl) (fun _ _ _ h => h) (by rfl) (by assumption) (v := ?_) ?_ ?_
          rotate_left
          · intro w' hSw
            try dsimp only at hSw
            go_simp
            try with_reducible rfl
          try simp only [Act.put, List.setIfInBounds_toArray, List.set_cons_zero, List.set_cons_succ]
          refine takeP (i := 10) rfl (by kernel_rfl) (by kernel_rfl) (by kernel_rfl) (fun _ _ _ h => h) (by rfl) (by assumption) (v := ?_) ?_ ?_
          rotate_left
          · intro w' hSw
            try dsimp only at hSw
            go_simp
            try with_reducible rfl
          try simp only [Act.put, List.setIfInBounds_toArray, List.set_cons_zero, List.set_cons_succ]
          refine takeP (i := 11) rfl (by kernel_rfl) (by kernel_rfl) (by kernel_rfl) (fun _ _ _ h => h) (by rfl) (by assumption) (v := ?_) ?_ ?_
          rotate_left
          · intro w' hSw
            try dsimp only at hSw
            go_simp
            try with_reducible rfl
          try simp only [Act.put, List.setIfInBounds_toArray, List.set_cons_zero, List.set_cons_succ]
          refine carryP (i := 6) rfl (by kernel_rfl) (by rfl) (fun K hK => ?_)
          refine wp_conv_bytes 9 23 (.tmp 105) rfl kj Try.underlying9 Try.underlying23 Try.underlying5 rfl ?_
          intro Ak5 ck5 w5 hk5 hb5 hz5
          clear hz5
          have hX5 : Below wo.heap.size wr.drew w5 := hb5.mono hb2.size
          have hZ5 : wo.heap.size ≤ w5.heap.size := Nat.le_trans hb2.size hb5.size
          have hown5 := own_below (w := wr.drew) hownl hb5 (Nat.le_refl _)
          have hep5 := EPk.below (w := wr.drew) hep hb5 (Nat.le_refl _)
          refine hK.out _ _ ?_ (fun hHeld => ?_)
          · exact HS.out _ (by first | assumption | exact Below.refl _ _)
          clear hK K
          try simp only [Act.put, List.setIfInBounds_toArray, List.set_cons_zero, List.set_cons_succ]
          refine takeP (i := 12) rfl (by kernel_rfl) (by kernel_rfl) (by kernel_rfl) (fun _ _ _ h => h) (by rfl) (by assumption) (v := ?_) ?_ ?_
          rotate_left
          · intro w' hSw
            try dsimp only at hSw
            go_simp
            try with_reducible rfl
          try simp only [Act.put, List.setIfInBounds_toArray, List.set_cons_zero, List.set_cons_succ]
          refine carryP (i := 13) rfl (by kernel_rfl) (by rfl) (fun K hK => ?_)
          go_simp
          have hX6 : Below wo.heap.size wr.drew (w5.alloc (.cells #[.slice Ak5 kj.length ck5, .int .u32 (xj : Int)] 46)) := hX5.alloc hZ5 _
          have hZ6 : wo.heap.size ≤ (w5.alloc (.cells #[.slice Ak5 kj.length ck5, .int .u32 (xj : Int)] 46)).heap.size := by simp; omega
          refine hK.out _ _ ?_ (fun hHeld => ?_)
          · exact HS.out _ (by first | assumption | exact Below.refl _ _)
          clear hK K
          try simp only [Act.put, List.setIfInBounds_toArray, List.set_cons_zero, List.set_cons_succ]
          refine carryP (i := 14) rfl (by kernel_rfl) (by rfl) (fun K hK => ?_)
          refine wp_append_any _ (.tmp 100) (.tmp 113) _ rfl wo.heap.size 46 ib _ 2 32 Try.underlying26 bi0 bz0 bz1 bz2 rfl (by omega) (.slice Al j cl) j cs (by rfl) (hown5.alloc _) (w5.heap.size + 1) (some ⟨w5.heap.size, 0, none⟩) 1 1 [.slice Ak5 kj.length ck5, .int .u32 (xj : Int)] (by rfl) (Reads.two _ _ _ _) (by simp [Value.oneCell']) (by unfold maxLen; omega) (by omega) hZ6 ?_
          intro v7 w7 hown7 hg7 hat7
          obtain ⟨A7, c7, rfl⟩ := own_slice hown7
          have hX7 : Below wo.heap.size wr.drew w7 := hX6.grown hg7 hZ6 (fun k hk => own_base hown5 k hk)
          refine hK.out _ _ ?_ (fun hHeld => ?_)
          · exact HS.out _ (by first | assumption | exact Below.refl _ _)
          clear hK K
          try simp only [Act.put, List.setIfInBounds_toArray, List.set_cons_zero, List.set_cons_succ]
          refine takeP (i := 15) rfl (by kernel_rfl) (by kernel_rfl) (by kernel_rfl) (fun _ _ _ h => h) (by rfl) (by assumption) (v := ?_) ?_ ?_
          rotate_left
          · intro w' hSw
            try dsimp only at hSw
            go_simp
            try with_reducible rfl
          try simp only [Act.put, List.setIfInBounds_toArray, List.set_cons_zero, List.set_cons_succ]
          refine wpAnyH_done (by kernel_rfl) ?_ _
          -- MOVES END
          go_wp2_with fail
          have hs7 : ∀ (g : Nat) (C : Array Value) (fr : Nat × Nat), w5.heap[g]? = some (.cells C 5 fr) → w7.heap[g]? = w5.heap[g]? := fun g C fr hg => by
            have h1 := blk_alloc hg (.cells #[.slice Ak5 kj.length ck5, .int .u32 (xj : Int)] 46)
            exact ((hg7.block g (blk_lt h1) (own_neF (hown5.alloc _) h1 (by decide))).trans h1).trans hg.symm
          refine ⟨⟨j + 1, A7, c7, _, by go_num, hjlt, rfl, hown7, ?_, hb2.trans ((((Below.refl wo.heap.size wr).drew)).trans hX7)⟩, by simp [intOf]; omega⟩
          rw [take_succ_some HEJ.out]
          exact EPk.snoc (hep5.same hs7) hxj (hk5.same hs7)
        · obtain rfl : j = m := by omega
          have htk : es.take j = es := List.take_of_length_le (by rw [HM.out]; exact Nat.le_refl _)
          rw [htk] at hep
          have hEl := hep.ents hownl
          have hEw := (hE.below hb2).more hb2.size
          have hb := hbw.trans (hb2.mono hbs)
          have hM := HM.out
          subst hM
          go_wp2_with fail
          go_ret2
          exact ⟨es, _, _, _, _, rfl, by omega, h32, hk120, hEl, hEw, hb⟩

end Go.Proofs.Ytmljfjmceakahaa
