/- Layer 3: Read. -/
import Derived.Test.YthijobbhpbklmaaWrite
namespace Go.Proofs.Ythijobbhpbklmaa
open Go.RowKit
set_option linter.unusedVariables false
set_option linter.unusedSimpArgs false

def ReadP (w : World) (base : Nat) (ok : Nat → Prop) (p : Nat) (D : Dk) (I : Int) (e : Ending) (w' : World) : Prop :=
  (¬ (0 ≤ I ∧ I < D.good.length) ∧ e = .returned (.tuple #[.slice none 0 0, .int .i64 15]) ∧ w' = w) ∨
  ((0 ≤ I ∧ I < D.good.length) ∧ D.fails = 0 ∧ e = .returned (.tuple #[.slice none 0 0, .int .i64 20]) ∧ DiskAt w' base ok p D.count ∧ Fr ok w w') ∨
  ((0 ≤ I ∧ I < D.good.length) ∧ D.fails ≠ 0 ∧ ∃ g c, e = .returned (.tuple #[.slice (some ⟨g, 0, none⟩) D.size c, .int .i64 0]) ∧ D.size ≤ c ∧ w.heap.size ≤ g ∧ MB w' g (D.look I.toNat) ∧ (D.look I.toNat).length = D.size ∧ DiskAt w' base (fun k => ok k ∧ k ≠ g) p D.count ∧ Fr ok w w')
theorem take_succ_some {α : Type} {es : List α} {k : Nat} {e : α} (h : es[k]? = some e) : es.take (k + 1) = es.take k ++ [e] := by rw [List.take_add_one, h]; rfl
theorem lookIn_len (D : Dk) (h : D.OK) (l : List (Nat × List UInt8)) (hl : ∀ x ∈ l, x ∈ D.loose) (i : Nat) (b : List UInt8) (hb : b.length = D.size) : (lookIn l i b).length = D.size := by
  induction l generalizing b with
  | nil => exact hb
  | cons x l ih =>
    refine ih (fun y hy => hl y (List.mem_cons_of_mem _ hy)) _ ?_
    split
    · exact (h.o1 x (hl x List.mem_cons_self)).2
    · exact hb

set_option maxRecDepth 100000 in
set_option maxHeartbeats 4000000 in
theorem dread_any {w : World} {base : Nat} {ok : Nat → Prop} {p : Nat} {D : Dk} (h : DiskAt w base ok p D) (hfr : ∀ k, w.heap.size ≤ k → ok k) (hbase : base ≤ w.heap.size) (hc : D.calls < 1000000000) (hlo : D.loose.length ≤ 1000000000) (I : Int) :
    Calls Try.prog 25 #[.pointer (some ⟨p, 0, none⟩), .int .i64 I] w (ReadP w base ok p D I) := by
  have hth := dthere_any h I
  obtain ⟨G, L, dn, Z, h⟩ := h
  by_cases t0 : 0 ≤ I ∧ I < (D.good.length : Int)
  case neg =>
    have d0 : decide (0 ≤ I ∧ I < (D.good.length : Int)) = false := decide_eq_false t0
    rw [d0] at hth
    go_enter Try.func25, Try.ntmps25
    go_wp2_with (first | (go_at_call 57; refine hth.mono ?_; rintro e w' ⟨rfl, rfl⟩))
    go_ret2
    exact .inl ⟨t0, rfl, rfl⟩
  have d0 : decide (0 ≤ I ∧ I < (D.good.length : Int)) = true := decide_eq_true t0
  rw [d0] at hth
  clear d0
  have HT0 := Lib.hid t0
  obtain ⟨II, rfl⟩ := Int.eq_ofNat_of_zero_le t0.1
  have hII : II < D.good.length := by have := t0.2; omega
  have HII := Lib.hid hII
  have hcnt := dcount_any h hc
  obtain ⟨E, hE⟩ : ∃ E, D.err = E := ⟨_, rfl⟩
  rw [hE] at hcnt
  have HE := Lib.hid hE
  have hokp := h.okp
  have hwf := h.wf
  clear hE h t0 hII
  by_cases t3 : D.fails = 0
  · have hE20 : E = 20 := by rw [← HE.out]; unfold Dk.err; rw [if_pos t3]
    subst hE20
    have HT3 := Lib.hid t3
    clear t3
    go_enter Try.func25, Try.ntmps25
    go_wp2_with (first | (go_at_call 57; refine hth.mono ?_; rintro e w' ⟨rfl, rfl⟩) | (go_at_call 54; refine hcnt.mono ?_; rintro e w1 ⟨rfl, hD1, hA1⟩))
    go_ret2
    exact .inr (.inl ⟨HT0.out, HT3.out, rfl, ⟨_, _, _, _, hD1⟩, Fr.of_at hA1 hokp⟩)
  · have hE0 : E = 0 := by rw [← HE.out]; unfold Dk.err; rw [if_neg t3]
    subst hE0
    have HT3 := Lib.hid t3
    clear t3
    go_enter Try.func25, Try.ntmps25
    go_wp2_with fail
    refine hth.mono ?_
    rintro e w' ⟨rfl, rfl⟩
    go_wp2_with fail
    refine hcnt.mono ?_
    rintro e w1 ⟨rfl, hD1, hA1⟩
    have hF1 := Fr.of_at hA1 hokp
    have hz1 := hF1.size
    have HD1 := Lib.hid hD1
    have HWF := Lib.hid hwf
    obtain ⟨Ag, cg, csg, hG0, hoG, _, hrowG⟩ := hD1.good
    obtain ⟨Al, cl, csl, hL0, hoL, _, hrowL⟩ := hD1.loose
    obtain ⟨n, hn⟩ : ∃ n, D.count.good.length = n := ⟨_, rfl⟩
    obtain ⟨m, hm⟩ : ∃ m, D.count.loose.length = m := ⟨_, rfl⟩
    rw [hn] at hG0 hoG
    rw [hm] at hL0 hoL
    subst hG0
    subst hL0
    have hIn : II < n := by rw [← hn]; exact HII.out
    have hmm : m ≤ 1000000000 := by rw [← hm]; exact hlo
    obtain ⟨l0, hl0⟩ : ∃ l0, D.count.good[II]? = some l0 := ⟨_, List.getElem?_eq_getElem HII.out⟩
    obtain ⟨v0, hv0, hp0⟩ := hrowG II l0 hl0
    have hl0s : l0.length = D.size := hwf.g2 l0 (List.mem_of_getElem? hl0)
    have hl0d : D.good.getD II [] = l0 := by show D.count.good.getD II [] = l0; simp [List.getD, hl0]
    have hRg := Reads.of_own hoG
    obtain ⟨adg, rfl, _, hcg⟩ := hRg.2 (by omega)
    have g0 : w1.cell? (adg.add II) = some v0 := hcg II v0 hv0
    obtain ⟨_, _, e2, e3, _⟩ := hD1.blk.cells
    have HRL := Lib.hid (fun (W : World) (hW : Below w1.heap.size w1 W) (k : Nat) (hk : k < m) => (by
      have hR := (Reads.of_own hoL).below hW
      obtain ⟨x, hx⟩ : ∃ x, D.count.loose[k]? = some x := ⟨_, List.getElem?_eq_getElem (by rw [hm]; exact hk)⟩
      obtain ⟨u, hu0, hu, hpu⟩ := hrowL k x hx
      obtain ⟨adl, ea, hb, hcl⟩ := hR.2 (by omega)
      refine ⟨adl, x, u, ea, hx, hcl _ _ hu0, ?_, hpu.keep fun g C fr ho hg => ⟨hW.block g (blk_lt hg), ho⟩⟩
      have := hcl _ _ hu
      rwa [← add_of_add] at this : ∃ (adl : Addr) (x : Nat × List UInt8) (u : Value), Al = some adl ∧ D.loose[k]? = some x ∧ W.cell? (adl.add (k * 2)) = some (.int .i64 (x.1 : Int)) ∧ W.cell? ((adl.add (k * 2)).add 1) = some u ∧ PgAt W ok u x.2))
    have HMM := Lib.hid hm
    have HL0 := Lib.hid hl0d
    have HL1 := Lib.hid hl0s
    clear hcnt hth hD1 hoG hoL hrowG hrowL hn hm hlo hl0 hl0d hl0s hv0 hcg hRg hwf
    go_wp2_with fail
    clear e2 e3 g0
    go_loopw [7, 35] (fun b i wr => ∃ (k : Nat) (v : Value), k ≤ m ∧ i = .int .i64 (k : Int) ∧ b = v ∧ PgAt wr ok v (lookIn (D.loose.take k) II l0) ∧ Below w1.heap.size w1 wr) (fun _ i _ => m - (intOf i).toNat)
    case atStart => exact ⟨0, v0, Nat.zero_le _, rfl, rfl, hp0, Below.refl _ _⟩
    case round =>
      obtain ⟨k, v, hk, rfl, rfl, hpv, hbw⟩ := hrel
      have hbs := hbw.size
      by_cases hlt : k < m
      · obtain ⟨adl, x, u, rfl, hx, ca, cb, hpu⟩ := HRL.out wr hbw k hlt
        obtain ⟨Au, cu, hue, _⟩ := hpu.len
        subst hue
        have cb : wr.cell? ⟨(adl.add (k * 2)).block, (adl.add (k * 2)).off + 1, none⟩ = some (.slice (some Au) x.2.length cu) := cb
        have hb8 : Below wr.heap.size wr (wr.alloc (.cells #[.int .i64 (x.1 : Int), .slice (some Au) x.2.length cu] 129)) := (Below.refl _ _).alloc (Nat.le_refl _) _
        have hpu2 := hpu.keep (w' := wr.alloc (.cells #[.int .i64 (x.1 : Int), .slice (some Au) x.2.length cu] 129)) (ok' := ok) fun g C fr ho hg => ⟨hb8.block g (blk_lt hg), ho⟩
        have hpv2 := hpv.keep (w' := wr.alloc (.cells #[.int .i64 (x.1 : Int), .slice (some Au) x.2.length cu] 129)) (ok' := ok) fun g C fr ho hg => ⟨hb8.block g (blk_lt hg), ho⟩
        have hbw2 := hbw.trans (hb8.mono hbs)
        have hsn : lookIn (D.loose.take (k + 1)) II l0 = if x.1 = II then x.2 else lookIn (D.loose.take k) II l0 := by rw [take_succ_some hx, lookIn_snoc]
        by_cases hxi : x.1 = II
        · have hd : ((x.1 : Int) == (II : Int)) = true := by simp [hxi]
          have hd' : (x.1 == II) = true := by simp [hxi]
          rw [if_pos hxi] at hsn
          have HSN := Lib.hid hsn
          clear hsn hxi hpv hpu
          go_wp2_with fail
          exact ⟨⟨k + 1, _, by omega, by go_num, rfl, by rw [HSN.out]; exact hpu2, hbw2⟩, by simp [intOf]; omega⟩
        · have hd : ((x.1 : Int) == (II : Int)) = false := by simp; omega
          have hd' : (x.1 == II) = false := by simp [hxi]
          rw [if_neg hxi] at hsn
          have HSN := Lib.hid hsn
          clear hsn hxi hpv hpu
          go_wp2_with fail
          exact ⟨⟨k + 1, _, by omega, by go_num, rfl, by rw [HSN.out]; exact hpv2, hbw2⟩, by simp [intOf]; omega⟩
      · obtain rfl : k = m := by omega
        have htk : D.loose.take k = D.loose := List.take_of_length_le (by have := HMM.out; show D.count.loose.length ≤ k; omega)
        rw [htk] at hpv
        have hll := lookIn_len D HWF.out D.loose (fun _ h => h) II l0 HL1.out
        obtain ⟨A, c, rfl, hsl⟩ := hpv.sl
        rw [hll] at hsl ⊢
        have hsz := HWF.out.s2
        have hsz1 := HWF.out.s1
        have HLK := Lib.hid (show lookIn D.loose II l0 = D.look II from by unfold Dk.look; rw [HL0.out])
        have HLL := Lib.hid hll
        clear htk hll hpv
        go_wp2_with fail
        refine (clone_any _ _ _ _ _ _ hsl (by omega)).mono ?_
        rintro e w9 ⟨v9, rfl, hown9, hb9⟩
        obtain ⟨g, c9, rfl, hmb, hgc, hgw⟩ := MB.of_own hown9 (by omega)
        have hD9 := HD1.out.below (hbw.trans (hb9.mono hbs))
        have hF9 := (hF1.trans (Fr.of_below hbw)).trans (Fr.of_below hb9)
        have hDo : DiskAt w9 base (fun q => ok q ∧ q ≠ g) p D.count := by
          have h0 : DiskAt wr base ok p D.count := ⟨_, _, _, _, HD1.out.below hbw⟩
          exact h0.other fun q hq ho => ⟨hb9.block q hq, ho, by omega⟩
        go_wp2_with fail
        go_ret2
        exact .inr (.inr ⟨HT0.out, HT3.out, g, c9, rfl, hgc, by omega, by rw [Int.toNat_natCast, ← HLK.out]; exact hmb, by rw [Int.toNat_natCast, ← HLK.out]; exact HLL.out, hDo, hF9⟩)
end Go.Proofs.Ythijobbhpbklmaa
