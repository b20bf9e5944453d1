/- LeafOwn. -/
import Derived.Test.YtmljfjmceakahaaLawLPuts
import Derived.Deep.DeepCutAuto
namespace Go.Proofs.Ytmljfjmceakahaa
open Go.RowKit
set_option linter.unusedVariables false
set_option linter.unusedSimpArgs false

/-- A slice of bytes of its own: its first byte may be written. -/
def Wc (w : World) (base : Nat) (A : Option Addr) (n : Nat) : Prop :=
  0 < n → ∃ (g : Nat) (C : Array Value) (b : UInt8), A = some ⟨g, 0, none⟩ ∧ base ≤ g ∧ w.heap[g]? = some (.cells C 5 (0, 0)) ∧ C[0]? = some (.int .u8 (b.toNat : Int))
theorem Wc.of_own {w : World} {base : Nat} {A : Option Addr} {n c : Nat} {k : List UInt8} (h : w.ownsRow base 5 1 (.slice A n c) n (bv k)) : Wc w base A n := by
  intro hn
  rcases h.2 with ⟨_, h0⟩ | ⟨g, cap, cur, hv, hg, hh, hc, _, hsz, htk⟩
  · omega
  · injection hv with hA _ _
    have hl := h.1
    rw [bv_length] at hl
    obtain ⟨b, hb⟩ : ∃ b, k[0]? = some b := ⟨_, List.getElem?_eq_getElem (by omega)⟩
    refine ⟨g, cur, b, hA, hg, hh, ?_⟩
    have h1 : (bv k)[0]? = some (.int .u8 (b.toNat : Int)) := by simp [bv, hb]
    rw [← htk, List.getElem?_take] at h1
    split at h1
    · simpa using h1
    · cases h1
theorem Wc.set_ {w : World} {base : Nat} {A : Option Addr} {n : Nat} (h : Wc w base A n) {g : Nat} {C : Array Value} (hg : w.heap[g]? = some (.cells C 5 (0, 0))) {b0 : UInt8} (h0 : C[0]? = some (.int .u8 (b0.toNat : Int))) (b : UInt8) : Wc (w.setCell ⟨g, 0, none⟩ (.int .u8 (b.toNat : Int))) base A n := by
  intro hn
  obtain ⟨g', C', b', hA, hb, hh, hc⟩ := h hn
  by_cases e : g' = g
  · subst e
    rw [hg] at hh
    injection hh with hh
    injection hh with hh _
    subst hh
    have hlt : 0 < C.size := by
      rcases Nat.eq_zero_or_pos C.size with h1 | h1
      · rw [Array.getElem?_eq_none (by omega)] at h0; cases h0
      · exact h1
    refine ⟨g', _, b, hA, hb, blk_set hg 0 _, ?_⟩
    rw [Array.getElem?_setIfInBounds_self_of_lt hlt]
  · exact ⟨g', C', b', hA, hb, blk_far hh e _, hc⟩
/-- Entries as cells, their keys and values may be written. -/
def LWs (w : World) (base : Nat) (cs : List Value) (es : List LE) : Prop :=
  ∀ (i : Nat) (e : LE), es[i]? = some e → ∃ Ak nk ck Av nv cv, cs[i * 4]? = some (.slice Ak nk ck) ∧ cs[i * 4 + 1]? = some (.slice Av nv cv) ∧ e.key.length = nk ∧ e.val.length = nv ∧ Wc w base Ak nk ∧ Wc w base Av nv
theorem LWs.of {w : World} {base : Nat} {cs : List Value} {es : List LE} (h : LPs w base cs es) : LWs w base cs es := by
  intro i e hi
  obtain ⟨_, Ak, nk, ck, Av, nv, cv, h1, h2, _, _, h5, h6⟩ := h.2 i e hi
  exact ⟨Ak, nk, ck, Av, nv, cv, h1, h2, by simpa [bv_length] using h5.1, by simpa [bv_length] using h6.1, Wc.of_own h5, Wc.of_own h6⟩
theorem LWs.set_ {w : World} {base : Nat} {cs : List Value} {es : List LE} (h : LWs w base cs es) {g : Nat} {C : Array Value} (hg : w.heap[g]? = some (.cells C 5 (0, 0))) {b0 : UInt8} (h0 : C[0]? = some (.int .u8 (b0.toNat : Int))) (b : UInt8) : LWs (w.setCell ⟨g, 0, none⟩ (.int .u8 (b.toNat : Int))) base cs es := by
  intro i e hi
  obtain ⟨Ak, nk, ck, Av, nv, cv, h1, h2, h3, h4, h5, h6⟩ := h i e hi
  exact ⟨Ak, nk, ck, Av, nv, cv, h1, h2, h3, h4, h5.set_ hg h0 b, h6.set_ hg h0 b⟩

set_option maxRecDepth 100000 in
set_option maxHeartbeats 2000000 in
theorem leafOwn_law (w : World) (A : Option Addr) (n c : Nat) (rs : List LE) (h : LEnts w w.heap.size A n rs) (hn : n ≤ 9223372036854775807) (x : UInt8) :
    Calls Try.prog 13 #[.slice A n c, .int .u8 (x.toNat : Int)] w fun e w' => e = .returned (.bool true) ∧ Below w.heap.size w w' := by
  go_enter Try.func13, Try.ntmps13
  go_wp2_with fail
  refine (awake4 w).mono ?_
  rintro e w1 ⟨rfl, hb1⟩
  have h1 := h.below hb1
  go_wp2_with fail
  refine (lfew_any _ _ _ _ _ _ h1 hb1.size hn).mono ?_
  rintro e w2 ⟨b, rfl, hb, hb2'⟩
  have hb2 := hb1.trans (hb2'.mono hb1.size)
  have h2 := h.below hb2
  clear h1 hb1 hb2'
  cases b with
  | false =>
    clear hb
    go_wp2_with fail
    go_ret
    exact ⟨rfl, hb2⟩
  | true =>
    obtain ⟨hf1, hf2⟩ := hb.1 rfl
    rw [h.1] at hf1
    clear hb
    go_wp2_with fail
    refine (lentries_any _ _ _ _ _ _ h2 hb2.size hf1 hf2 true).mono ?_
    rintro e w3 ⟨es, Al, cl, Aw, cw, rfl, hl30, hokl, hfs, hstr, hlc, hE, hRE, hb3'⟩
    have hb3 := hb2.trans (hb3'.mono hb2.size)
    obtain ⟨m, hm⟩ : ∃ m, es.length = m := ⟨_, rfl⟩
    rw [hm] at hl30 hE hRE hlc ⊢
    have hsh : LSh es := fun e he => by have := hfs e he; omega
    have HM := Lib.hid hm
    clear h2 hb2 hb3' hm
    have hr0 : RB w3 w3 := Below.refl _ _
    clear hstr hlc
    by_cases hgo : LRight es ((512 : Nat) : Int) ∧ (lFill es : Int) ≤ ((512 : Nat) : Int)
    · obtain ⟨hR, hfS⟩ := hgo
      have hfit : lFill es ≤ 512 := by omega
      have hput := lput_ok w3 _ _ _ cl _ hE (Nat.le_refl _) (by omega) 512 hR hfit
      have hL := lPut_length es 512 hfit
      have hgetp := fun W B g (hs : Sl W B (some ⟨g, 0, none⟩) 512 512 (lPut es 512)) (hB : B ≤ W.heap.size) => lget_page W B _ 512 512 es hs hB (by omega) hR hfit hokl
      rw [HM.out] at hgetp
      have hkey1 : ∀ e ∈ es, 1 ≤ e.key.length := fun e he => (hR.sh.1 e he).1
      obtain ⟨L, hLL⟩ : ∃ L, lPut es 512 = L := ⟨_, rfl⟩
      rw [hLL] at hput hL hgetp
      clear hR hfS hfit hLL hokl
      go_wp2_with fail
      refine hput.mono ?_
      rintro e w4 ⟨g, rfl, hg, hrow, hb4⟩
      have hr4 : RB w3 w4 := RB.step hb4 hr0
      have hsl4 := hrow.slN (n := 512) hL (by omega)
      clear hput hb4 hrow hL
      go_wp2_with fail
      refine (hgetp _ _ _ hsl4 (Nat.le_refl _)).mono ?_
      rintro e w5 ⟨Ay, cy, cs, rfl, hYo, hYp, hb5⟩
      have hYw := LWs.of hYp
      have hYR := (Reads.of_own hYo).1
      have hcl := hYp.1
      rw [HM.out] at hcl
      clear hYp
      go_wp2_with fail
      go_loopw [13] (fun i wr => ∃ k : Nat, k ≤ m ∧ i = .int .i64 (k : Int) ∧ LWs wr w4.heap.size cs es ∧ wr.ownsRow w4.heap.size 70 4 (.slice Ay m cy) m cs ∧ Below w4.heap.size w4 wr) (fun i _ => m - (intOf i).toNat)
      case atStart => exact ⟨0, Nat.zero_le _, rfl, hYw, hYo, hb5⟩
      case round =>
        obtain ⟨k, hkm, rfl, hW, hO, hbw⟩ := hrel
        clear hYw hYo hb5
        by_cases hlt : k < m
        · have hkl : k < es.length := by rw [HM.out]; exact hlt
          obtain ⟨Ak, nk, ck, Av, nv, cv, c1, c2, hk, hv, wk, wv⟩ := hW k es[k] (List.getElem?_eq_getElem hkl)
          have hnk : 0 < nk := by rw [← hk]; exact hkey1 _ (List.getElem_mem hkl)
          obtain ⟨g1, C1, b1, rfl, hg1, hh1, hc1⟩ := wk hnk
          obtain ⟨ad, had, _, hcell⟩ := (Reads.of_own hO).2 (by omega)
          have a0 := hcell _ _ c1
          have hx1 : wr.cell? ⟨g1, 0, none⟩ = some (.int .u8 (b1.toNat : Int)) := by rw [blk_cell hh1]; exact hc1
          have hf1 := blk_frozen hh1 0
          have hxor := xor_byte b1 x
          have hk0 : (0 : Int) ≤ (k : Int) := by omega
          have hk1 : (k : Int) < (m : Int) := by omega
          have hnk0 : (0 : Int) < (nk : Int) := by omega
          have W2 := hW.set_ hh1 hc1 (b1 ^^^ x)
          have O2 := own_setCell hO (p := ⟨g1, 0, none⟩) (own_neF hO hh1 (by decide)) (.int .u8 ((b1 ^^^ x).toNat : Int))
          have B2 := hbw.setCell (p := ⟨g1, 0, none⟩) hg1 (.int .u8 ((b1 ^^^ x).toNat : Int))
          rw [UInt8.toNat_xor] at W2 O2 B2
          subst had
          clear hcell hk hv wk wv
          go_upto_region 16 with fail
          generalize wr.setCell ⟨g1, 0, none⟩ (.int .u8 ((b1.toNat ^^^ x.toNat : Nat) : Int)) = w6 at W2 O2 B2 ⊢
          obtain ⟨Ak', nk', ck', Av', nv', cv', c1', c2', hk', hv', _, wv'⟩ := W2 k es[k] (List.getElem?_eq_getElem hkl)
          rw [c2] at c2'
          cases c2'
          obtain ⟨ad', had, _, hcell⟩ := (Reads.of_own O2).2 (by omega)
          cases had
          have a1 := hcell _ _ c2
          rw [← add_of_add] at a1
          have a1 : w6.cell? ⟨(ad.add (k * 4)).block, (ad.add (k * 4)).off + 1, none⟩ = some (.slice Av nv cv) := a1
          clear hcell a0 hx1 hf1 hxor hk' hv' c1'
          by_cases hnv : 0 < nv
          · obtain ⟨g2, C2, b2, rfl, hg2, hh2, hc2⟩ := wv' hnv
            have hx2 : w6.cell? ⟨g2, 0, none⟩ = some (.int .u8 (b2.toNat : Int)) := by rw [blk_cell hh2]; exact hc2
            have hf2 := blk_frozen hh2 0
            have hxor := xor_byte b2 x
            have hnvd : decide ((0 : Int) < (nv : Int)) = true := decide_eq_true (by omega)
            have hnv0 : (0 : Int) < (nv : Int) := by omega
            have W3 := W2.set_ hh2 hc2 (b2 ^^^ x)
            have O3 := own_setCell O2 (p := ⟨g2, 0, none⟩) (own_neF O2 hh2 (by decide)) (.int .u8 ((b2 ^^^ x).toNat : Int))
            have B3 := B2.setCell (p := ⟨g2, 0, none⟩) hg2 (.int .u8 ((b2 ^^^ x).toNat : Int))
            rw [UInt8.toNat_xor] at W3 O3 B3
            go_wp2_with fail
            exact ⟨⟨k + 1, hlt, by go_num, W3, O3, B3⟩, by simp [intOf]; omega⟩
          · have hnvd : decide ((0 : Int) < (nv : Int)) = false := decide_eq_false (by omega)
            go_wp2_with fail
            exact ⟨⟨k + 1, hlt, by go_num, W2, O2, B2⟩, by simp [intOf]; omega⟩
        · obtain rfl : k = m := by omega
          have hget := hgetp _ _ _ (hsl4.below hbw) hbw.size
          have hrw := Below.trans hr4 (hbw.mono (Below.size hr4))
          clear hW hO
          go_wp2_with fail
          refine hget.mono ?_
          rintro e w10 ⟨Ag, cg, csg, rfl, hGo, hGp, hb10⟩
          have hr10 := RB.step hb10 hrw
          have hG := hGp.ents hGo
          have hbz := hb3.trans (Below.mono hr10 hb3.size)
          have hsame := lsame_any w10 _ _ Ag _ cg Aw cw es hG (hRE.below hr10) (by omega)
          clear hgetp hsl4 hGo hGp hb10 hget
          go_wp2_with fail
          refine hsame.mono ?_
          rintro e w11 ⟨rfl, hb11⟩
          have hb12 := hbz.trans (hb11.mono hbz.size)
          clear hsame
          go_wp2_with fail
          go_ret
          exact ⟨rfl, hb12⟩
    · obtain ⟨E, hE1, hput⟩ := lput_nogo w3 _ _ _ cl _ hE (Nat.le_refl _) (by omega) hsh ((512 : Nat) : Int) hgo
      have hEb : (E != 0) = true := by rcases hE1 with rfl | rfl <;> rfl
      clear hE1 hgo
      go_wp2_with fail
      refine (hput _ hr0).mono ?_
      rintro e w4 ⟨rfl, hb4⟩
      clear hput
      go_wp2_with fail
      go_ret
      exact ⟨rfl, hb3.trans (hb4.mono hb3.size)⟩

end Go.Proofs.Ytmljfjmceakahaa
