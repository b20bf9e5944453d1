/- leaf.Get. -/
import Derived.Test.YtmljfjmceakahaaLGetP
namespace Go.Proofs.Ytmljfjmceakahaa
open Go.RowKit
set_option linter.unusedVariables false
set_option linter.unusedSimpArgs false

theorem info_lent : (Try.prog.info? 70).map (fun i => (i.zero, i.size, i.bytes)) = some (some (.agg #[.slice none 0 0, .slice none 0 0, .int .i64 0, .int .u32 0]), 4, 64) := by kernel_rfl

/-- What Get gives. -/
def LGP (l : List UInt8) (w : World) (r : Ending) (w' : World) : Prop :=
  Below w.heap.size w w' ∧ ((r = .returned (.tuple #[.slice none 0 0, .int .i64 11]) ∧ LNone l) ∨
    ∃ (es : List LE) (A : Option Addr) (n c : Nat) (cs : List Value), r = .returned (.tuple #[.slice A n c, .int .i64 0]) ∧ LOkL es ∧ LPage es l ∧ w'.ownsRow w.heap.size 70 4 (.slice A n c) n cs ∧ LPs w' w.heap.size cs es)

theorem lget_len (w : World) (B : Nat) (A : Option Addr) (n c : Nat) (l : List UInt8) (h : Sl w B A n c l) (hn : n ≤ 9223372036854775807) (hl : ¬ (512 ≤ n ∧ n ≤ 4096)) :
    Calls Try.prog 37 #[.slice A n c] w (LGP l w) := by
  have hN : LGP l w (.returned (.tuple #[.slice none 0 0, .int .i64 11])) w := ⟨Below.refl _ _, .inl ⟨rfl, LNone.len (by rw [h.len]; exact hl)⟩⟩
  by_cases c1 : n < 512
  · have d1 : decide ((n : Int) < 512) = true := decide_eq_true (by omega)
    go_enter Try.func37, Try.ntmps37
    go_wp2_with fail
    go_ret2
    exact hN
  · have d1 : decide ((n : Int) < 512) = false := decide_eq_false (by omega)
    have d2 : decide (4096 < (n : Int)) = true := decide_eq_true (by omega)
    go_enter Try.func37, Try.ntmps37
    go_wp2_with fail
    go_ret2
    exact hN

/-- Each entry of a page fills seven bytes, at least. -/
theorem pFill_sum (es : List LE) {S : Int} (h : LRight es S) : es.length * 7 ≤ lFill es := by
  have hk : ∀ e ∈ es, 5 ≤ lLong e := by
    intro e he
    obtain ⟨i, hi, rfl⟩ := List.getElem_of_mem he
    have h1 := (h.2.2 i hi es[i] (List.getElem?_eq_getElem hi)).1.1
    unfold lLong
    split <;> omega
  clear h
  unfold lFill
  induction es with
  | nil => simp
  | cons e es ih =>
    have h1 := ih (fun e he => hk e (List.mem_cons_of_mem _ he))
    have h2 := hk e List.mem_cons_self
    simp at h1 ⊢
    omega

theorem Reads.four (w : World) (a b c d : Value) (t : TypeId) : Reads (w.alloc (.cells #[a, b, c, d] t)) (w.heap.size + 1) 4 (some ⟨w.heap.size, 0, none⟩) 1 [a, b, c, d] := by
  have hb : (w.alloc (.cells #[a, b, c, d] t)).heap[w.heap.size]? = some (.cells #[a, b, c, d] t (0, 0)) := heap_alloc_new w _
  refine ⟨rfl, fun _ => ⟨_, rfl, by simp, fun j u hu => ?_⟩⟩
  rw [Addr.add_lit, Nat.zero_add, blk_cell hb]
  simpa using hu

set_option maxRecDepth 100000 in
set_option maxHeartbeats 2000000 in
theorem lget_in (w : World) (B : Nat) (A : Option Addr) (n c : Nat) (l : List UInt8) (h : Sl w B A n c l) (hBw : B ≤ w.heap.size) (hl1 : 512 ≤ n) (hl2 : n ≤ 4096) :
    Calls Try.prog 37 #[.slice A n c] w (LGP l w) := by
  obtain ⟨i0, hi0, hz0, hz1, hz2⟩ := info_parts info_u8
  obtain ⟨ie, ei0, ez0, ez1, ez2⟩ := info_parts info_lent
  have hlen := h.len
  have hcap := h.cap
  have d1 : decide ((n : Int) < 512) = false := decide_eq_false (by omega)
  have d2 : decide (4096 < (n : Int)) = false := decide_eq_false (by omega)
  have HLEN := Lib.hid hlen
  have hll : 512 ≤ l.length := by omega
  have hlu : l.length ≤ 4096 := by omega
  clear hlen
  go_enter Try.func37, Try.ntmps37
  go_wp2_with fail
  refine (new_r _ _ _ _ _ _ h (by omega)).mono ?_
  rintro r w1 ⟨g, rfl, hR1, hg1, hb1⟩
  have hz1w := hb1.size
  go_wp2_with fail
  refine (rnum_i _ _ _ _ _ hR1 (by omega) (by omega)).mono ?_
  rintro r w2 ⟨x2, rfl, hx2, hx2b, hR2, hA2⟩
  obtain ⟨p1, p2, p3⟩ := take_nn l 2 (by omega)
  rw [show (2 : Int).toNat = 2 from rfl, p2, p3] at hR2
  have hb2 := hb1.trans (hA2.below hg1 hz1w)
  clear p1 p2 p3 hx2 hx2b hA2 hR1
  go_wp2_with fail
  refine (rnum_i _ _ _ _ _ hR2 (by omega) (by omega)).mono ?_
  rintro r w3 ⟨N, rfl, hN, hNb, hR3, hA3⟩
  obtain ⟨p1, p2, p3⟩ := take_dd l 2 2 4 rfl (by omega)
  rw [show (2 : Int).toNat = 2 from rfl, p2, p3] at hR3
  have HN : Hid (N = be ((l.drop 2).take 2)) := Lib.hid <| by have := hN.out; rwa [show (2 : Int).toNat = 2 from rfl, p1] at this
  have hNb' : N ≤ 65535 := by have : N < 256 ^ 2 := hNb; omega
  have hb3 := hb2.trans (hA3.below hg1 hb2.size)
  clear p1 p2 p3 hN hNb hA3 hR2 hb2
  go_wp2_with fail
  go_loopw [6, 28] (fun v i wr => ∃ (k : Nat) (es : List LE) (Av : Option Addr) (cv : Nat) (cs : List Value), i = .int .i64 (k : Int) ∧ k ≤ N ∧ v = .slice Av k cv ∧ Hid (lScan l k = some es) ∧ IsR wr g (l.drop (4 + 2 * k)) 0 ∧ wr.ownsRow (g + 1) 70 4 (.slice Av k cv) k cs ∧ LPs wr w.heap.size cs es ∧ LSh es ∧ Below w.heap.size w wr) (fun _ i _ => N - (intOf i).toNat)
  case atStart => exact ⟨0, [], none, 0, [], rfl, Nat.zero_le _, rfl, Lib.hid rfl, by simpa using hR3, World.ownsRow_nil _ _ _ _, LPs.nil_ _ _, by simp [LSh], hb3⟩
  case round =>
    obtain ⟨k, es, Av, cv, cs, rfl, hkN, rfl, hsc, hR, hown, hes, hsh, hbw⟩ := hrel
    by_cases hlt : k < N
    · have hbs := hbw.size
      have hsl := h.below (hbw.mono hBw)
      by_cases c1 : 4 + 2 * k + 2 ≤ n
      · obtain ⟨p1, p2, p3⟩ := take_dd l (4 + 2 * k) 2 (4 + 2 * (k + 1)) (by omega) (by rw [HLEN.out]; omega)
        go_wp2_with fail
        refine (rnum_i _ _ _ _ _ hR (by omega) (by omega)).mono ?_
        rintro r w4 ⟨at_, rfl, hat, hatb, hR4, hA4⟩
        rw [show (2 : Int).toNat = 2 from rfl, p2, p3] at hR4
        have HAT : Hid (at_ = bAt l k) := Lib.hid <| by have := hat.out; rwa [show (2 : Int).toNat = 2 from rfl, p1] at this
        have hatl : at_ ≤ 65535 := by have : at_ < 256 ^ 2 := hatb; omega
        have hb4 := hbw.trans (hA4.below hg1 hbs)
        have hown4 := own_at_r hown hA4 hR (by decide)
        have hes4 := hes.at_r hA4 hR
        clear p1 p2 p3 hat hatb hR hA4 hown hes hbw hbs hsl
        have hs4 := h.below (hb4.mono hBw)
        by_cases c2 : at_ ≤ n
        · have c2d : decide ((n : Int) < (at_ : Int)) = false := decide_eq_false (by omega)
          have c2n : decide (n < at_) = false := decide_eq_false (by omega)
          obtain ⟨A5, hcut, hsl5⟩ := cut_l (P := Try.prog) 23 5 .i64 Try.underlying23 hi0 hz1 A n c at_ c2
          have hs5 := hsl5 _ _ _ hs4
          obtain ⟨m, hm⟩ : ∃ m, l.drop at_ = m := ⟨_, rfl⟩
          obtain ⟨nm, hnm⟩ : ∃ nm, n - at_ = nm := ⟨_, rfl⟩
          have hnm1 : nm ≤ 4096 := by omega
          rw [hnm] at hs5 hcut
          rw [hm] at hs5
          have HM := Lib.hid hm
          have hml : m.length ≤ 4096 := by rw [hs5.len]; exact hnm1
          clear hm hnm hsl5
          go_wp2_with (first | (go_at_call 52; refine (err_any _ _ _ _ hR4).mono ?_; rintro r w' ⟨rfl, rfl⟩))
          refine (lentry_any _ _ _ _ _ m (hs5.more (Nat.le_trans hBw hb4.size)) (Nat.le_refl _) hnm1).mono ?_
          rintro r w5 ⟨Ak, nk, ck, Ax, nx, cx, rfl, hok, hov, hb5'⟩
          have hb5 := hb4.trans (hb5'.mono hb4.size)
          have hR5 := hR4.below hb5' hR4.lt
          have hown5 := own_below hown4 hb5' (Nat.le_refl _)
          have hes5 := hes4.below hb5' (Nat.le_refl _)
          have hk5 := own_weaken hok hb4.size
          have hv5 := own_weaken hov hb4.size
          have hsh5 := cEnt_sh m hml
          have heok := cEnt_ok m
          clear hR4 hown4 hes4 hb4 hs4 hs5 hcut hb5' hok hov
          obtain ⟨E3, hE3⟩ : ∃ E3, cErr m = E3 := ⟨_, rfl⟩
          rw [hE3]
          have HE3 := Lib.hid hE3
          clear hE3
          have hg5 := hR5.lt
          have hbs5 := hb5.size
          by_cases c3 : E3 = 0
          · subst c3
            have hstep : lStep l k = some (cEnt m) := by
              unfold lStep
              rw [← HAT.out, HM.out, if_pos ⟨by rw [HLEN.out]; exact c1, by rw [HLEN.out]; exact c2, HE3.out⟩]
            have HST := Lib.hid (lScan_yes hsc.out hstep)
            have hkN' : k ≤ 65535 := by omega
            obtain ⟨e, he⟩ : ∃ e, cEnt m = e := ⟨_, rfl⟩
            rw [he] at HST hk5 hv5 hsh5 heok ⊢
            have hb6 := hb5.alloc hb5.size (lObj e Ak nk ck Ax nx cx)
            have hR6 := hR5.below ((Below.refl w5.heap.size w5).alloc (Nat.le_refl _) (lObj e Ak nk ck Ax nx cx)) hg5
            have hown6 := hown5.alloc (lObj e Ak nk ck Ax nx cx)
            have hes6 := hes5.below ((Below.refl w5.heap.size w5).alloc (Nat.le_refl _) (lObj e Ak nk ck Ax nx cx)) (Nat.le_refl _)
            have hk6 := hk5.alloc (lObj e Ak nk ck Ax nx cx)
            have hv6 := hv5.alloc (lObj e Ak nk ck Ax nx cx)
            have hq6 := heap_alloc_new w5 (lObj e Ak nk ck Ax nx cx)
            clear hstep he hR5 hown5 hes5 hk5 hv5 hb5
            go_upto_region 13 with fail
            obtain ⟨q, hq⟩ : ∃ q, w5.heap.size = q := ⟨_, rfl⟩
            rw [hq] at hq6 ⊢
            generalize w5.alloc (lObj e Ak nk ck Ax nx cx) = w6 at hb6 hR6 hown6 hes6 hk6 hv6 hq6 ⊢
            have hbs6 := hb6.size
            have hg6 := hR6.lt
            obtain ⟨x0, x1, x2', x3⟩ := cell4 hq6
            clear hq hbs5 hg5
            go_wp2_with (first | (at_builtin; refine wpList_append_any _ rfl (.tmp 51) (.tmp 53) _ rfl (g + 1) 70 ie _ 4 64 Try.underlying58 ei0 ez0 ez1 ez2 rfl (by omega) (.slice Av k cv) k cs rfl (hown6.alloc _) (w6.heap.size + 1) (some ⟨w6.heap.size, 0, none⟩) 1 1 [.slice Ak nk ck, .slice Ax nx cx, .int .i64 e.long, .int .u32 (e.first : Int)] rfl (Reads.four _ _ _ _ _ _) (by simp [Value.oneCell']) (by unfold maxLen; omega) (by omega) (by simp; omega) ?_; intro v' w9 hown9 hg9 hat9; obtain ⟨A9, c9, rfl⟩ := own_slice hown9))
            have hal := (Below.refl w6.heap.size w6).alloc (Nat.le_refl _) (lObj e Ak nk ck Ax nx cx)
            have hs9 : ∀ (g' : Nat) (C : Array Value), w6.heap[g']? = some (.cells C 5 (0, 0)) → w9.heap[g']? = w6.heap[g']? := fun g' C hC => by
              have h1 := blk_alloc hC (lObj e Ak nk ck Ax nx cx)
              exact ((hg9.block g' (blk_lt h1) (own_neF (hown6.alloc (lObj e Ak nk ck Ax nx cx)) h1 (by decide))).trans h1).trans hC.symm
            refine ⟨⟨k + 1, es ++ [e], A9, c9, _, by go_num, hlt, rfl, HST, ?_, hown9, ?_, ?_, ?_⟩, by simp [intOf]; omega⟩
            · exact IsR.grown_ (hR6.below hal hg6) hg9 (fun k hk => own_base hown6 k hk)
            · exact LPs.snoc (hes6.same hs9) heok (own_same hk6 hs9) (own_same hv6 hs9)
            · intro e' he'
              rcases List.mem_append.1 he' with he' | he'
              · exact hsh e' he'
              · simp at he'
                subst he'
                exact hsh5
            · exact (hb6.alloc hb6.size _).grown hg9 (by simp; omega) (fun k hk => by have := own_base hown6 k hk; omega)
          · have c3b : (E3 != 0) = true := by simpa using c3
            have hno : LNone l := LNone.step (k := k) (by unfold lStep; rw [if_neg]; rw [← HAT.out, HM.out, HE3.out]; intro hh; exact c3 hh.2.2) (by rw [← HN.out]; exact hlt)
            have hbz := hb5.alloc hb5.size (lObj (cEnt m) Ak nk ck Ax nx cx)
            clear hk5 hv5 hes5 hown5 hR5 hsh5 heok
            go_wp2_with fail
            go_ret2
            exact ⟨hbz, .inl ⟨rfl, hno⟩⟩
        · have c2d : decide ((n : Int) < (at_ : Int)) = true := decide_eq_true (by omega)
          have c2n : decide (n < at_) = true := decide_eq_true (by omega)
          have hno : LNone l := LNone.step (k := k) (by unfold lStep; rw [if_neg]; rw [← HAT.out, HLEN.out]; omega) (by rw [← HN.out]; exact hlt)
          go_wp2_with (first | (go_at_call 52; refine (err_any _ _ _ _ hR4).mono ?_; rintro r w' ⟨rfl, rfl⟩))
          go_ret2
          exact ⟨hb4, .inl ⟨rfl, hno⟩⟩
      · have hno : LNone l := LNone.step (k := k) (by unfold lStep; rw [if_neg]; rw [HLEN.out]; omega) (by rw [← HN.out]; exact hlt)
        have hE : takeE (l.drop (4 + 2 * k)) 0 2 = 10 := take_short _ _ (by rw [List.length_drop, HLEN.out]; omega)
        go_wp2_with fail
        refine (rnum_i _ _ _ _ _ hR (by omega) (by omega)).mono ?_
        rintro r w4 ⟨x4, rfl, hx4, hx4b, hR4, hA4⟩
        rw [show (2 : Int).toNat = 2 from rfl, hE] at hR4
        have hb4 := hbw.trans (hA4.below hg1 hbs)
        clear hE hx4 hR
        have hx4l : x4 ≤ 65535 := by have : x4 < 256 ^ 2 := hx4b; omega
        go_wp2_with fail
        refine (err_any _ _ _ _ hR4).mono ?_
        rintro r w' ⟨rfl, rfl⟩
        go_wp2_with fail
        go_ret2
        exact ⟨hb4, .inl ⟨rfl, hno⟩⟩
    · obtain rfl : k = N := by omega
      have hents := hes.ents hown
      have hslw := h.below (hbw.mono hBw)
      have hscan := hsc.out
      rw [HN.out] at hscan
      have hesl := lScan_len hsc.out
      have hes32 : LOkL es := by
        intro e he
        obtain ⟨i, hi, rfl⟩ := List.getElem_of_mem he
        exact (hes.2 i es[i] (List.getElem?_eq_getElem hi)).1
      by_cases hRi : LRight es (n : Int)
      · by_cases hFi : lFill es ≤ n
        · have hcl : True := trivial
          have hk1000 : k ≤ 1000 := by
            have h1 := pFill_sum es hRi
            omega
          go_wp2_with fail
          refine (lput_ok _ _ _ _ _ _ hents (Nat.le_refl _) hk1000 n hRi hFi).mono ?_
          rintro r w4 ⟨q, rfl, hq, hrow, hb4'⟩
          have hb4 := hbw.trans (hb4'.mono hbw.size)
          have hs4 := h.below (hb4.mono hBw)
          have hqs := hrow.slN (lPut_length es n hFi) (by omega)
          have hown4 := own_weaken (own_below hown hb4' (Nat.le_refl _)) (show w.heap.size ≤ g + 1 by omega)
          have hes4 := hes.below hb4' (Nat.le_refl _)
          by_cases heq : lPut es n = l
          · have hpg : LPage es l := ⟨by rw [HLEN.out]; exact hRi, by rw [HLEN.out]; exact hFi, by rw [HLEN.out]; exact heq⟩
            have hdec : decide (lPut es n = l) = true := decide_eq_true heq
            have hcall : ∀ W, w4 = W → Calls Try.prog 54 #[.slice (some ⟨q, 0, none⟩) n n, .slice A n c] W fun e w' => e = .returned (.bool true) ∧ W = w' := fun W hW => by
              subst hW
              have := bytes_eq w4 _ _ _ _ _ _ _ _ _ _ hqs hs4
              rw [hdec] at this
              exact this
            clear hcl hdec heq hRi hFi hscan hsc
            go_wp2_with (first | (go_at_call 54; refine (hcall _ rfl).mono ?_; rintro r w' ⟨rfl, rfl⟩))
            go_ret2
            exact ⟨hb4, .inr ⟨es, _, _, _, cs, rfl, hes32, hpg, hown4, hes4⟩⟩
          · have hno : LNone l := LNone.end_ hscan (fun hp => heq (by have := hp.page; rwa [HLEN.out] at this))
            have hdec : decide (lPut es n = l) = false := decide_eq_false heq
            have hcall : ∀ W, w4 = W → Calls Try.prog 54 #[.slice (some ⟨q, 0, none⟩) n n, .slice A n c] W fun e w' => e = .returned (.bool false) ∧ W = w' := fun W hW => by
              subst hW
              have := bytes_eq w4 _ _ _ _ _ _ _ _ _ _ hqs hs4
              rw [hdec] at this
              exact this
            clear hcl hdec heq hRi hFi hscan hsc
            go_wp2_with (first | (go_at_call 54; refine (hcall _ rfl).mono ?_; rintro r w' ⟨rfl, rfl⟩))
            go_ret2
            exact ⟨hb4, .inl ⟨rfl, hno⟩⟩
        · have hno : LNone l := LNone.end_ hscan (fun hp => hFi (by have := hp.fits; rwa [HLEN.out] at this))
          have hfull := lput_full wr _ _ _ cv _ hents (Nat.le_refl _) (by omega) hsh (n : Int) hRi (by omega)
          clear hsc hscan hRi hFi
          go_wp2_with fail
          refine hfull.mono ?_
          rintro r w4 ⟨rfl, hb4'⟩
          have hb4 := hbw.trans (hb4'.mono hbw.size)
          go_wp2_with fail
          go_ret2
          exact ⟨hb4, .inl ⟨rfl, hno⟩⟩
      · have hno : LNone l := LNone.end_ hscan (fun hp => hRi (by have := hp.right; rwa [HLEN.out] at this))
        have harg := lput_arg wr _ _ _ cv _ hents (Nat.le_refl _) (by omega) hsh (n : Int) hRi
        clear hsc hscan hRi
        go_wp2_with fail
        refine harg.mono ?_
        rintro r w4 ⟨rfl, hb4'⟩
        have hb4 := hbw.trans (hb4'.mono hbw.size)
        go_wp2_with fail
        go_ret2
        exact ⟨hb4, .inl ⟨rfl, hno⟩⟩

theorem lget_any (w : World) (B : Nat) (A : Option Addr) (n c : Nat) (l : List UInt8) (h : Sl w B A n c l) (hBw : B ≤ w.heap.size) (hn : n ≤ 9223372036854775807) :
    Calls Try.prog 37 #[.slice A n c] w (LGP l w) := by
  by_cases hl : 512 ≤ n ∧ n ≤ 4096
  · exact lget_in w B A n c l h hBw hl.1 hl.2
  · exact lget_len w B A n c l h hn hl

end Go.Proofs.Ytmljfjmceakahaa
