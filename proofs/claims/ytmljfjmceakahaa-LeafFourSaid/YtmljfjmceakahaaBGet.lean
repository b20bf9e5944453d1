/- branch.Get. -/
import Derived.Test.YtmljfjmceakahaaBGetP
namespace Go.Proofs.Ytmljfjmceakahaa
open Go.RowKit
set_option linter.unusedVariables false
set_option linter.unusedSimpArgs false

theorem info_ent : (Try.prog.info? 46).map (fun i => (i.zero, i.size, i.bytes)) = some (some (.agg #[.slice none 0 0, .int .u32 0]), 2, 32) := by kernel_rfl

/-- What Get gives. -/
def BGP (l : List UInt8) (w : World) (r : Ending) (w' : World) : Prop :=
  Below w.heap.size w w' ∧ ((r = .returned (.tuple #[.slice none 0 0, .int .i64 11]) ∧ BNone l) ∨
    ∃ es A n c, r = .returned (.tuple #[.slice A n c, .int .i64 0]) ∧ (∀ e ∈ es, e.2 < 4294967296) ∧ BPage es l ∧ Ents w' w'.heap.size A n es)

theorem bget_len (w : World) (B : Nat) (A : Option Addr) (n c : Nat) (l : List UInt8) (h : Sl w B A n c l) (hn : n ≤ 9223372036854775807) (hl : ¬ (512 ≤ n ∧ n ≤ 4096)) :
    Calls Try.prog 25 #[.slice A n c] w (BGP l w) := by
  have hN : BGP l w (.returned (.tuple #[.slice none 0 0, .int .i64 11])) w := ⟨Below.refl _ _, .inl ⟨rfl, BNone.len (by rw [h.len]; exact hl)⟩⟩
  by_cases c1 : n < 512
  · have d1 : decide ((n : Int) < 512) = true := decide_eq_true (by omega)
    go_enter Try.func25, Try.ntmps25
    go_wp2_with fail
    go_ret2
    exact hN
  · have d1 : decide ((n : Int) < 512) = false := decide_eq_false (by omega)
    have d2 : decide (4096 < (n : Int)) = true := decide_eq_true (by omega)
    go_enter Try.func25, Try.ntmps25
    go_wp2_with fail
    go_ret2
    exact hN

theorem own_at_r {w w' : World} {base g : Nat} {e : TypeId} {size n : Nat} {v : Value} {xs : List Value} {l : List UInt8} {x : Int} (h : w.ownsRow base e size v n xs) (hA : At g w w') (hR : IsR w g l x) (ht : e ≠ 118) : w'.ownsRow base e size v n xs := by
  obtain ⟨A, n', c, hb, _⟩ := hR
  exact own_same h fun g' C hg' => hA.block g' (blk_lt hg') (fun e => by injection e with e; subst e; rw [hb] at hg'; injection hg' with hg'; injection hg' with _ hg'; exact ht hg'.symm)
theorem EPs.at_r {w w' : World} {base g : Nat} {cs : List Value} {es : List (List UInt8 × Nat)} {l : List UInt8} {x : Int} (h : EPs w base cs es) (hA : At g w w') (hR : IsR w g l x) : EPs w' base cs es := by
  obtain ⟨A, n', c, hb, _⟩ := hR
  exact h.at_ hA hb (by decide)

theorem IsR.at_lt {w w' : World} {g q : Nat} {l : List UInt8} {e : Int} (h : IsR w g l e) (hA : At q w w') (hq : g < q) : IsR w' g l e := by
  obtain ⟨A, n, c, h1, h2⟩ := h
  have hg := blk_lt h1
  exact ⟨A, n, c, (hA.block g hg (fun e => by injection e with e; omega)).trans h1, h2.keep fun k hk => hA.block k (by omega) (fun e => by injection e with e; omega)⟩

theorem IsR.grown_ {w w' : World} {g : Nat} {l : List UInt8} {e : Int} {row : Option Nat} (h : IsR w g l e) (hA : w.grownBy w' row) (hq : ∀ k, row = some k → g + 1 ≤ k) : IsR w' g l e := by
  obtain ⟨A, n, c, h1, h2⟩ := h
  have hg := blk_lt h1
  exact ⟨A, n, c, (hA.block g hg (fun e => by have := hq _ e.symm; omega)).trans h1, h2.keep fun k hk => hA.block k (by omega) (fun e => by have := hq _ e.symm; omega)⟩

theorem Reads.two (w : World) (a b : Value) (t : TypeId) : Reads (w.alloc (.cells #[a, b] t)) (w.heap.size + 1) 2 (some ⟨w.heap.size, 0, none⟩) 1 [a, b] := by
  have hb : (w.alloc (.cells #[a, b] t)).heap[w.heap.size]? = some (.cells #[a, b] t (0, 0)) := heap_alloc_new w _
  refine ⟨rfl, fun _ => ⟨_, rfl, by simp, fun j u hu => ?_⟩⟩
  rw [Addr.add_lit, Nat.zero_add, blk_cell hb]
  simpa using hu

set_option maxRecDepth 100000 in
set_option maxHeartbeats 2000000 in
theorem bget_in (w : World) (B : Nat) (A : Option Addr) (n c : Nat) (l : List UInt8) (h : Sl w B A n c l) (hBw : B ≤ w.heap.size) (hl1 : 512 ≤ n) (hl2 : n ≤ 4096) :
    Calls Try.prog 25 #[.slice A n c] w (BGP l w) := by
  obtain ⟨i0, hi0, hz0, hz1, hz2⟩ := info_parts info_u8
  obtain ⟨ie, ei0, ez0, ez1, ez2⟩ := info_parts info_ent
  have hlen := h.len
  have hcap := h.cap
  have d1 : decide ((n : Int) < 512) = false := decide_eq_false (by omega)
  have d2 : decide (4096 < (n : Int)) = false := decide_eq_false (by omega)
  have HLEN := Lib.hid hlen
  have hll : 512 ≤ l.length := by omega
  have hlu : l.length ≤ 4096 := by omega
  clear hlen
  go_enter Try.func25, Try.ntmps25
  go_wp2_with fail
  refine (new_r _ _ _ _ _ _ h (by omega)).mono ?_
  rintro r w1 ⟨g, rfl, hR1, hg1, hb1⟩
  have hz1w := hb1.size
  go_wp2_with fail
  refine (rnum_i _ _ _ _ _ hR1 (by omega) (by omega)).mono ?_
  rintro r w2 ⟨x2, rfl, hx2, hx2b, hR2, hA2⟩
  obtain ⟨p1, p2, p3⟩ := take_nn l 2 (by omega)
  rw [show (2 : Int).toNat = 2 from rfl, p2, p3] at hR2
  have hb2 := hb1.trans (hA2.below hg1 hz1w)
  clear p1 p2 p3 hx2 hx2b hA2 hR1
  go_wp2_with fail
  refine (rnum_i _ _ _ _ _ hR2 (by omega) (by omega)).mono ?_
  rintro r w3 ⟨N, rfl, hN, hNb, hR3, hA3⟩
  obtain ⟨p1, p2, p3⟩ := take_dd l 2 2 4 rfl (by omega)
  rw [show (2 : Int).toNat = 2 from rfl, p2, p3] at hR3
  have HN : Hid (N = be ((l.drop 2).take 2)) := Lib.hid <| by have := hN.out; rwa [show (2 : Int).toNat = 2 from rfl, p1] at this
  have hNb' : N ≤ 65535 := by have : N < 256 ^ 2 := hNb; omega
  have hb3 := hb2.trans (hA3.below hg1 hb2.size)
  clear p1 p2 p3 hN hNb hA3 hR2 hb2
  go_wp2_with fail
  go_loopw [6, 30] (fun v i wr => ∃ (k : Nat) (es : List (List UInt8 × Nat)) (Av : Option Addr) (cv : Nat) (cs : List Value), i = .int .i64 (k : Int) ∧ k ≤ N ∧ v = .slice Av k cv ∧ Hid (bScan l k = some es) ∧ IsR wr g (l.drop (4 + 2 * k)) 0 ∧ wr.ownsRow (g + 1) 46 2 (.slice Av k cv) k cs ∧ EPs wr w.heap.size cs es ∧ Below w.heap.size w wr) (fun _ i _ => N - (intOf i).toNat)
  case atStart => exact ⟨0, [], none, 0, [], rfl, Nat.zero_le _, rfl, Lib.hid rfl, by simpa using hR3, World.ownsRow_nil _ _ _ _, EPs.nil_ _ _, hb3⟩
  case round =>
    obtain ⟨k, es, Av, cv, cs, rfl, hkN, rfl, hsc, hR, hown, hes, hbw⟩ := hrel
    by_cases hlt : k < N
    · have hbs := hbw.size
      have hsl := h.below (hbw.mono hBw)
      by_cases c1 : 4 + 2 * k + 2 ≤ n
      · obtain ⟨p1, p2, p3⟩ := take_dd l (4 + 2 * k) 2 (4 + 2 * (k + 1)) (by omega) (by rw [HLEN.out]; omega)
        go_wp2_with fail
        refine (rnum_i _ _ _ _ _ hR (by omega) (by omega)).mono ?_
        rintro r w4 ⟨at_, rfl, hat, hatb, hR4, hA4⟩
        rw [show (2 : Int).toNat = 2 from rfl, p2, p3] at hR4
        have HAT : Hid (at_ = bAt l k) := Lib.hid <| by have := hat.out; rwa [show (2 : Int).toNat = 2 from rfl, p1] at this
        have hatl : at_ ≤ 65535 := by have : at_ < 256 ^ 2 := hatb; omega
        have hb4 := hbw.trans (hA4.below hg1 hbs)
        have hown4 := own_at_r hown hA4 hR (by decide)
        have hes4 := hes.at_r hA4 hR
        clear p1 p2 p3 hat hatb hR hA4 hown hes hbw hbs hsl
        have hs4 := h.below (hb4.mono hBw)
        by_cases c2 : at_ ≤ n
        · have c2d : decide ((n : Int) < (at_ : Int)) = false := decide_eq_false (by omega)
          have c2n : decide (n < at_) = false := decide_eq_false (by omega)
          obtain ⟨A5, hcut, hsl5⟩ := cut_l (P := Try.prog) 23 5 .i64 Try.underlying23 hi0 hz1 A n c at_ c2
          have hs5 := hsl5 _ _ _ hs4
          obtain ⟨m, hm⟩ : ∃ m, l.drop at_ = m := ⟨_, rfl⟩
          obtain ⟨nm, hnm⟩ : ∃ nm, n - at_ = nm := ⟨_, rfl⟩
          have hnm1 : nm ≤ 4096 := by omega
          rw [hnm] at hs5 hcut
          rw [hm] at hs5
          have HM := Lib.hid hm
          have hml : m.length ≤ 4096 := by rw [hs5.len]; exact hnm1
          clear hm hnm hsl5
          go_wp2_with (first | (go_at_call 52; refine (err_any _ _ _ _ hR4).mono ?_; rintro r w' ⟨rfl, rfl⟩))
          refine (new_r _ _ _ _ _ _ hs5 (by omega)).mono ?_
          rintro r w5 ⟨q, rfl, hQ5, hq1, hb5'⟩
          have hb5 := hb4.trans (hb5'.mono hb4.size)
          have hR5 := hR4.below hb5' hR4.lt
          have hown5 := own_below hown4 hb5' (Nat.le_refl _)
          have hes5 := hes4.below hb5' (Nat.le_refl _)
          have hgq : g < q := Nat.lt_of_lt_of_le hR4.lt hq1
          have hwq : w.heap.size ≤ q := Nat.le_trans hb4.size hq1
          clear hR4 hown4 hes4 hb4 hs4 hs5 hcut hb5' hq1
          -- r.Num(1)
          go_wp2_with fail
          refine (rnum_i _ _ _ _ _ hQ5 (by omega) (by omega)).mono ?_
          rintro r w6 ⟨long, rfl, hlo, hlob, hQ6, hA6⟩
          have HLO : Hid (long = bLong m) := Lib.hid hlo.out
          have hlol : long ≤ 255 := by have : long < 256 ^ 1 := hlob; omega
          have hQ6 : IsR w6 q (bM1 m) (bE1 m) := hQ6
          have hb6 := hb5.trans (hA6.below hwq hb5.size)
          have hR6 := hR5.at_lt hA6 hgq
          have hown6 := own_at_r hown5 hA6 hQ5 (by decide)
          have hes6 := hes5.at_r hA6 hQ5
          have hm1 : (bM1 m).length ≤ 4096 := Nat.le_trans (takeR_le _ _ _) hml
          clear hlo hlob hA6 hR5 hown5 hes5 hb5 hQ5
          go_wp2_with fail
          refine (rraw_any _ _ _ _ long hQ6 (by omega)).mono ?_
          rintro r w7 ⟨A7, n7, c7, rfl, hown7k, hQ7, hA7⟩
          rw [HLO.out] at hown7k hQ7
          have hown7k : w7.ownsRow w6.heap.size 5 1 (.slice A7 n7 c7) n7 (bv (bKey m)) := hown7k
          have hQ7 : IsR w7 q (bM2 m) (bE2 m) := hQ7
          have hb7 := hb6.trans (hA7.below hwq hb6.size)
          have hR7 := hR6.at_lt hA7 hgq
          have hown7 := own_at_r hown6 hA7 hQ6 (by decide)
          have hes7 := hes6.at_r hA7 hQ6
          have hk7 := own_weaken hown7k hb6.size
          clear hA7 hR6 hown6 hes6 hb6 hQ6 hown7k hm1
          go_wp2_with fail
          refine (rnum_i _ _ _ _ _ hQ7 (by omega) (by omega)).mono ?_
          rintro r w8 ⟨ch, rfl, hch, hchb, hQ8, hA8⟩
          have HCH : Hid (ch = bChild m) := Lib.hid hch.out
          have hchl : ch ≤ 4294967295 := by have : ch < 256 ^ 4 := hchb; omega
          have hQ8 : IsR w8 q _ (bE3 m) := hQ8
          have hb8 := hb7.trans (hA8.below hwq hb7.size)
          have hR8 := hR7.at_lt hA8 hgq
          have hown8 := own_at_r hown7 hA8 hQ7 (by decide)
          have hes8 := hes7.at_r hA8 hQ7
          have hk8 := own_at_r hk7 hA8 hQ7 (by decide)
          have hxI : IntKind.u32.wrap (ch : Int) = (ch : Int) := IntWalk.u32_in _ (by omega)
          clear hch hchb hA8 hR7 hown7 hes7 hb7 hk7 hQ7
          obtain ⟨E3, hE3⟩ : ∃ E3, bE3 m = E3 := ⟨_, rfl⟩
          rw [hE3] at hQ8
          have HE3 := Lib.hid hE3
          clear hE3
          by_cases c3 : E3 = 0
          · subst c3
            have hstep : bStep l k = some (bKey m, ch) := by
              unfold bStep
              rw [← HAT.out, HM.out, if_pos ⟨by rw [HLEN.out]; exact c1, by rw [HLEN.out]; exact c2, HE3.out⟩, HCH.out]
            have HST := Lib.hid (bScan_yes hsc.out hstep)
            clear hstep
            have hbs8 := hb8.size
            have hg8 := hR8.lt
            have hkN' : k ≤ 65535 := by omega
            go_wp2_with (first | (go_at_call 52; refine (err_any _ _ _ _ hQ8).mono ?_; rintro r w' ⟨rfl, rfl⟩) | (at_builtin; refine wpList_append_any _ rfl (.tmp 60) (.tmp 64) _ rfl (g + 1) 46 ie _ 2 32 Try.underlying26 ei0 ez0 ez1 ez2 rfl (by omega) (.slice Av k cv) k cs rfl (hown8.alloc _) (w8.heap.size + 1) (some ⟨w8.heap.size, 0, none⟩) 1 1 [.slice A7 n7 c7, .int .u32 (ch : Int)] rfl (Reads.two _ _ _ _) (by simp [Value.oneCell']) (by unfold maxLen; omega) (by omega) (by simp; omega) ?_; intro v' w9 hown9 hg9 hat9; obtain ⟨A9, c9, rfl⟩ := own_slice hown9))
            refine ⟨⟨k + 1, es ++ [(bKey m, ch)], A9, c9, _, by go_num, hlt, rfl, HST, ?_, hown9, ?_, ?_⟩, by simp [intOf]; omega⟩
            · exact IsR.grown_ (hR8.below ((Below.refl w8.heap.size w8).alloc (Nat.le_refl _) _) hg8) hg9 (fun k hk => own_base hown8 k hk)
            · refine EPs.snoc ((hes8.below ((Below.refl w8.heap.size w8).alloc (Nat.le_refl _) _) (Nat.le_refl _)).grown hg9 (fun g' C hr hC => own_ne (hown8.alloc _) hC (by decide) hr.symm)) (by omega) ?_
              exact own_same (hk8.alloc _) (fun g' C hC => hg9.block g' (blk_lt hC) (own_ne (hown8.alloc _) hC (by decide)))
            · exact (hb8.alloc hb8.size _).grown hg9 (by simp; omega) (fun k hk => by have := own_base hown8 k hk; omega)
          · have c3b : (E3 != 0) = true := by simpa using c3
            have hno : BNone l := BNone.step (k := k) (by unfold bStep; rw [if_neg]; rw [← HAT.out, HM.out, HE3.out]; intro hh; exact c3 hh.2.2) (by rw [← HN.out]; exact hlt)
            go_wp2_with (first | (go_at_call 52; refine (err_any _ _ _ _ hQ8).mono ?_; rintro r w' ⟨rfl, rfl⟩))
            go_ret2
            exact ⟨hb8, .inl ⟨rfl, hno⟩⟩
        · have c2d : decide ((n : Int) < (at_ : Int)) = true := decide_eq_true (by omega)
          have c2n : decide (n < at_) = true := decide_eq_true (by omega)
          have hno : BNone l := BNone.step (k := k) (by unfold bStep; rw [if_neg]; rw [← HAT.out, HLEN.out]; omega) (by rw [← HN.out]; exact hlt)
          go_wp2_with (first | (go_at_call 52; refine (err_any _ _ _ _ hR4).mono ?_; rintro r w' ⟨rfl, rfl⟩))
          go_ret2
          exact ⟨hb4, .inl ⟨rfl, hno⟩⟩
      · have hno : BNone l := BNone.step (k := k) (by unfold bStep; rw [if_neg]; rw [HLEN.out]; omega) (by rw [← HN.out]; exact hlt)
        have hE : takeE (l.drop (4 + 2 * k)) 0 2 = 10 := take_short _ _ (by rw [List.length_drop, HLEN.out]; omega)
        go_wp2_with fail
        refine (rnum_i _ _ _ _ _ hR (by omega) (by omega)).mono ?_
        rintro r w4 ⟨x4, rfl, hx4, hx4b, hR4, hA4⟩
        rw [show (2 : Int).toNat = 2 from rfl, hE] at hR4
        have hb4 := hbw.trans (hA4.below hg1 hbs)
        clear hE hx4 hR
        have hx4l : x4 ≤ 65535 := by have : x4 < 256 ^ 2 := hx4b; omega
        go_wp2_with fail
        refine (err_any _ _ _ _ hR4).mono ?_
        rintro r w' ⟨rfl, rfl⟩
        go_wp2_with fail
        go_ret2
        exact ⟨hb4, .inl ⟨rfl, hno⟩⟩
    · obtain rfl : k = N := by omega
      have hents := hes.ents hown
      have hslw := h.below (hbw.mono hBw)
      have hscan := hsc.out
      rw [HN.out] at hscan
      have hesl := bScan_len hsc.out
      have hes32 : ∀ e ∈ es, e.2 < 4294967296 := by
        intro e he
        obtain ⟨i, hi, rfl⟩ := List.getElem_of_mem he
        exact (hes.2 i es[i].1 es[i].2 (List.getElem?_eq_getElem hi)).1
      by_cases hRi : BRight es (n : Int)
      · by_cases hFi : bFill es ≤ n
        · have hcl := bCells_length es
          have hk1000 : k ≤ 1000 := by
            have hcc : es.length * 5 ≤ (bCells es).length := bCells_ge es
            omega
          go_wp2_with fail
          refine (bput_ok _ _ _ _ _ _ hents (Nat.le_refl _) hk1000 n hRi hFi).mono ?_
          rintro r w4 ⟨q, rfl, hq, hrow, hb4'⟩
          have hb4 := hbw.trans (hb4'.mono hbw.size)
          have hs4 := h.below (hb4.mono hBw)
          have hqs := hrow.slN (bPut_length es n hFi) (by omega)
          have hents4 := hents.below hb4'
          by_cases heq : bPut es n = l
          · have hpg : BPage es l := ⟨by rw [HLEN.out]; exact hRi, by rw [HLEN.out]; exact hFi, by rw [HLEN.out]; exact heq⟩
            have hdec : decide (bPut es n = l) = true := decide_eq_true heq
            have hcall : ∀ W, w4 = W → Calls Try.prog 54 #[.slice (some ⟨q, 0, none⟩) n n, .slice A n c] W fun e w' => e = .returned (.bool true) ∧ W = w' := fun W hW => by
              subst hW
              have := bytes_eq w4 _ _ _ _ _ _ _ _ _ _ hqs hs4
              rw [hdec] at this
              exact this
            clear hcl hdec heq hRi hFi hscan hsc
            go_wp2_with (first | (go_at_call 54; refine (hcall _ rfl).mono ?_; rintro r w' ⟨rfl, rfl⟩))
            go_ret2
            exact ⟨hb4, .inr ⟨es, _, _, _, rfl, hes32, hpg, hents4.more hb4'.size⟩⟩
          · have hno : BNone l := BNone.end_ hscan (fun hp => heq (by have := hp.page; rwa [HLEN.out] at this))
            have hdec : decide (bPut es n = l) = false := decide_eq_false heq
            have hcall : ∀ W, w4 = W → Calls Try.prog 54 #[.slice (some ⟨q, 0, none⟩) n n, .slice A n c] W fun e w' => e = .returned (.bool false) ∧ W = w' := fun W hW => by
              subst hW
              have := bytes_eq w4 _ _ _ _ _ _ _ _ _ _ hqs hs4
              rw [hdec] at this
              exact this
            clear hcl hdec heq hRi hFi hscan hsc
            go_wp2_with (first | (go_at_call 54; refine (hcall _ rfl).mono ?_; rintro r w' ⟨rfl, rfl⟩))
            go_ret2
            exact ⟨hb4, .inl ⟨rfl, hno⟩⟩
        · have hno : BNone l := BNone.end_ hscan (fun hp => hFi (by have := hp.fits; rwa [HLEN.out] at this))
          have hfull := bput_full wr _ _ _ cv _ hents (Nat.le_refl _) (by omega) (n : Int) hRi (by omega)
          clear hsc hscan hRi hFi
          go_wp2_with fail
          refine hfull.mono ?_
          rintro r w4 ⟨rfl, hb4'⟩
          have hb4 := hbw.trans (hb4'.mono hbw.size)
          go_wp2_with fail
          go_ret2
          exact ⟨hb4, .inl ⟨rfl, hno⟩⟩
      · have hno : BNone l := BNone.end_ hscan (fun hp => hRi (by have := hp.right; rwa [HLEN.out] at this))
        have harg := bput_arg wr _ _ _ cv _ hents (Nat.le_refl _) (by omega) (n : Int) hRi
        clear hsc hscan hRi
        go_wp2_with fail
        refine harg.mono ?_
        rintro r w4 ⟨rfl, hb4'⟩
        have hb4 := hbw.trans (hb4'.mono hbw.size)
        go_wp2_with fail
        go_ret2
        exact ⟨hb4, .inl ⟨rfl, hno⟩⟩

theorem bget_any (w : World) (B : Nat) (A : Option Addr) (n c : Nat) (l : List UInt8) (h : Sl w B A n c l) (hBw : B ≤ w.heap.size) (hn : n ≤ 9223372036854775807) :
    Calls Try.prog 25 #[.slice A n c] w (BGP l w) := by
  by_cases hl : 512 ≤ n ∧ n ≤ 4096
  · exact bget_in w B A n c l h hBw hl.1 hl.2
  · exact bget_len w B A n c l h hn hl

end Go.Proofs.Ytmljfjmceakahaa
