/- Layer 8: Take, Give. -/
import Derived.Test.YthijobbhpbklmaaSpace
namespace Go.Proofs.Ythijobbhpbklmaa
open Go.RowKit Go.Maps
set_option linter.unusedVariables false
set_option linter.unusedSimpArgs false

theorem MSet.del_ {w' : World} {b : Nat} {S : List Nat} (hnd : S.Nodup) {D : DataW Unit} (hT : Maps.Tidy D) (hM : Maps.IsMap D) (hsz : Maps.size D = S.length) (hhas : ∀ p : Nat, Maps.has D (.int .u32 (p : Int)) = decide (p ∈ S)) {q : Nat} (hq : q ∈ S) {n : Nat} (h : w'.ownsMap Try.prog 73 unitElem b n (D.del (.int .u32 (q : Int)))) : MSet w' b (S.erase q) := by
  refine ⟨hnd.erase q, n, _, h, ?_, fun p => ?_⟩
  · have h1 := Maps.size_del (k := .int .u32 (q : Int)) hT
    rw [hhas q, if_pos (decide_eq_true hq), hsz] at h1
    rw [List.length_erase_of_mem hq]
    omega
  · by_cases e : p = q
    · subst e
      rw [Maps.has_del_same]
      simp [hnd.mem_erase_iff]
    · rw [Maps.has_del_other (by intro h; injection h with _ h; exact e (by omega)), hhas p]
      simp [hnd.mem_erase_iff, e]
/-- Blocks that aren't ok stay. -/
def SFr (ok : Nat → Prop) (w w' : World) : Prop := w'.os = w.os ∧ w'.tape = w.tape ∧ w'.output = w.output ∧ w.heap.size ≤ w'.heap.size ∧ ∀ k, k < w.heap.size → ¬ ok k → w'.heap[k]? = w.heap[k]?
theorem SFr.refl (ok : Nat → Prop) (w : World) : SFr ok w w := ⟨rfl, rfl, rfl, Nat.le_refl _, fun _ _ _ => rfl⟩
theorem SFr.trans {ok : Nat → Prop} {a b c : World} (h : SFr ok a b) (k : SFr ok b c) : SFr ok a c :=
  ⟨k.1.trans h.1, k.2.1.trans h.2.1, k.2.2.1.trans h.2.2.1, Nat.le_trans h.2.2.2.1 k.2.2.2.1, fun i hi ho => (k.2.2.2.2 i (Nat.lt_of_lt_of_le hi h.2.2.2.1) ho).trans (h.2.2.2.2 i hi ho)⟩
theorem SFr.of_below {ok : Nat → Prop} {w w' : World} (h : Below w.heap.size w w') : SFr ok w w' := ⟨h.os, h.tape, h.output, h.size, fun i hi _ => h.block i hi⟩
theorem SFr.of_grown {ok : Nat → Prop} {w w' : World} {b : Nat} (h : w.grownBy w' (some b)) (hb : ok b) : SFr ok w w' := ⟨h.os, h.tape, h.output, h.size, fun i hi ho => h.block i hi (fun e => ho (by injection e with e; rw [e]; exact hb))⟩
theorem SFr.below {ok : Nat → Prop} {w w' : World} {B : Nat} (h : SFr ok w w') (hB : B ≤ w.heap.size) (ho : ∀ k, k < B → ¬ ok k) : Below B w w' :=
  ⟨h.1, h.2.1, h.2.2.1, h.2.2.2.1, fun k hk => h.2.2.2.2 k (by omega) (ho k hk)⟩
theorem grown_turned {w w' : World} {b : Nat} (h : w.mapTurned w' b) : w.grownBy w' (some b) := by
  exact h.grown
section
variable {w w' : World} {base p : Nat} {ok : Nat → Prop} {S : Sp} {Wv : Value} {bu bf bg bh : Nat}
/-- One of the maps has turned. -/
theorem WRow.grown {v : Value} {rs : List (Nat × List Nat)} (h : WRow w base ok v rs) {b : Nat} {T : List Nat} (hb : MSet w b T) (hg : w.grownBy w' (some b)) : WRow w' base ok v rs :=
  h.move fun g C t ho hC _ => ⟨hg.block g (blk_lt hC) (fun e => hb.ne hC (by injection e)), ho⟩
theorem SBlk.grown {e l : Nat} (h : SBlk w p e l Wv bu bf bg bh) {b : Nat} {T : List Nat} (hb : MSet w b T) (hg : w.grownBy w' (some b)) : SBlk w' p e l Wv bu bf bg bh :=
  (hg.block p (blk_lt h) (fun e => hb.ne h (by injection e))).trans h
theorem MSet.grown_ {b c : Nat} {T : List Nat} (h : MSet w b T) (hne : b ≠ c) (hg : w.grownBy w' (some c)) : MSet w' b T := h.block (hg.block b h.lt (fun e => hne (by injection e)))
end
def Sp.take (S : Sp) : Sp × Nat × Int :=
  if S.us = [] then (if S.lim ≤ S.fin then (S, 0, 21) else ({ S with fin := S.fin + 1, fr := S.fr ++ [S.fin] }, S.fin, 0)) else ({ S with us := S.us.erase (minS S.us), fr := S.fr ++ [minS S.us] }, minS S.us, 0)
theorem Sp.OK.take {S : Sp} (h : S.OK) : S.take.1.OK := by
  unfold Sp.take
  have h1 := h.e1
  have h2 := h.e2
  have h3 := h.e3
  split
  · rename_i he
    split
    · exact h
    · rename_i hl
      have hnf : ∀ T : List Nat, (∀ p ∈ T, 2 ≤ p ∧ p < S.fin) → S.fin ∉ T := fun T hT hm => absurd (hT _ hm).2 (by omega)
      have up : ∀ T : List Nat, (∀ p ∈ T, 2 ≤ p ∧ p < S.fin) → ∀ p ∈ T, 2 ≤ p ∧ p < S.fin + 1 := fun T hT p hp => by have := hT p hp; omega
      refine ⟨by show 2 ≤ S.fin + 1; omega, by show S.fin + 1 ≤ S.lim; omega, h3, up _ h.u1, ?_, up _ h.g1, up _ h.h1, ?_, h.ug, h.uh, ?_, ?_, h.gh, h.un, ?_, h.gd, h.hn⟩
      · intro p hp
        rcases List.mem_append.1 hp with hp | hp
        · exact up _ h.f1 p hp
        · rw [List.mem_singleton.1 hp]; show 2 ≤ S.fin ∧ S.fin < S.fin + 1; omega
      · intro p hp hq
        rcases List.mem_append.1 hq with hq | hq
        · exact h.uf p hp hq
        · rw [List.mem_singleton.1 hq] at hp; exact hnf _ h.u1 hp
      · intro p hp hq
        rcases List.mem_append.1 hp with hp | hp
        · exact h.fg p hp hq
        · rw [List.mem_singleton.1 hp] at hq; exact hnf _ h.g1 hq
      · intro p hp hq
        rcases List.mem_append.1 hp with hp | hp
        · exact h.fh p hp hq
        · rw [List.mem_singleton.1 hp] at hq; exact hnf _ h.h1 hq
      · exact List.nodup_append.2 ⟨h.fn, by simp, fun a ha c hc e => by rw [List.mem_singleton.1 hc] at e; exact hnf _ h.f1 (e ▸ ha)⟩
  · rename_i he
    obtain ⟨hm, _⟩ := minS_mem he
    have hm2 := h.u1 _ hm
    refine ⟨h1, h2, h3, fun p hp => h.u1 p (List.mem_of_mem_erase hp), ?_, h.g1, h.h1, ?_, fun p hp => h.ug p (List.mem_of_mem_erase hp), fun p hp => h.uh p (List.mem_of_mem_erase hp), ?_, ?_, h.gh, h.un.erase _, ?_, h.gd, h.hn⟩
    · intro p hp
      rcases List.mem_append.1 hp with hp | hp
      · exact h.f1 p hp
      · rw [List.mem_singleton.1 hp]; exact hm2
    · intro p hp hq
      obtain ⟨hne, hp'⟩ := (h.un.mem_erase_iff).1 hp
      rcases List.mem_append.1 hq with hq | hq
      · exact h.uf p hp' hq
      · exact hne (List.mem_singleton.1 hq)
    · intro p hp hq
      rcases List.mem_append.1 hp with hp | hp
      · exact h.fg p hp hq
      · rw [List.mem_singleton.1 hp] at hq; exact h.ug _ hm hq
    · intro p hp hq
      rcases List.mem_append.1 hp with hp | hp
      · exact h.fh p hp hq
      · rw [List.mem_singleton.1 hp] at hq; exact h.uh _ hm hq
    · exact List.nodup_append.2 ⟨h.fn, by simp, fun a ha c hc e => by rw [List.mem_singleton.1 hc] at e; exact h.uf _ hm (e ▸ ha)⟩

def STakeP (w : World) (base : Nat) (ok : Nat → Prop) (p : Nat) (S : Sp) (e : Ending) (w' : World) : Prop :=
  e = .returned (.tuple #[.int .u32 (S.take.2.1 : Int), .int .i64 S.take.2.2]) ∧ SpAt w' base ok p S.take.1 ∧ SFr ok w w'
set_option maxRecDepth 100000 in
set_option maxHeartbeats 1000000 in
theorem stake_any {w : World} {base : Nat} {ok : Nat → Prop} {p : Nat} {S : Sp} (h : SpAt w base ok p S) :
    Calls Try.prog 44 #[.pointer (some ⟨p, 0, none⟩)] w (STakeP w base ok p S) := by
  obtain ⟨Wv, bu, bf, bg, bh, h⟩ := h
  have hwf := h.wf
  have hwt := hwf.take
  have hwf0 := hwf
  have e2 := hwf.e2
  have e3 := hwf.e3
  have hul := nodup_len hwf.un (fun q hq => (hwf.u1 q hq).2)
  have hfl := nodup_len hwf.fn (fun q hq => (hwf.f1 q hq).2)
  obtain ⟨_, _, _, c3, _⟩ := h.blk.cells
  have hlow := lowest_any w bu S.us h.su (by omega) (fun q hq => by have := (hwf.u1 q hq).2; omega)
  have HH := Lib.hid h
  have HWF := Lib.hid hwf
  have HWT := Lib.hid hwt
  have HW0 := Lib.hid hwf0
  clear hwf hwt hwf0
  unfold STakeP
  by_cases he : S.us = []
  · rw [if_pos he] at hlow
    have HE := Lib.hid he
    clear h he
    by_cases hl : S.lim ≤ S.fin
    · have HT := Lib.hid (show S.take = (S, 0, 21) from by unfold Sp.take; rw [if_pos HE.out, if_pos hl])
      rw [HT.out]
      go_enter Try.func44, Try.ntmps44
      go_wp2_with (first | (go_at_call 68; refine hlow.mono ?_; rintro e w1 ⟨rfl, hb1⟩))
      have h1 := HH.out.move (w' := w1) (ok' := ok) (fun k hk ho => ⟨hb1.block k hk, ho⟩)
      obtain ⟨x0, x1, _⟩ := h1.blk.cells
      have H1 := Lib.hid h1
      clear h1
      have d1 : decide (S.lim ≤ S.fin) = true := decide_eq_true hl
      have d1' : decide ((S.lim : Int) ≤ (S.fin : Int)) = true := decide_eq_true (by omega)
      go_wp2_with fail
      go_quiet (fail)
      go_wp2_with fail
      go_ret2
      exact ⟨rfl, ⟨_, _, _, _, _, H1.out.move (fun k hk ho => ⟨rfl, ho⟩)⟩, SFr.of_below (below_drewN hb1 _)⟩
    · have HT := Lib.hid (show S.take = ({ S with fin := S.fin + 1, fr := S.fr ++ [S.fin] }, S.fin, 0) from by unfold Sp.take; rw [if_pos HE.out, if_neg hl])
      rw [HT.out] at HWT ⊢
      go_enter Try.func44, Try.ntmps44
      go_wp2_with (first | (go_at_call 68; refine hlow.mono ?_; rintro e w1 ⟨rfl, hb1⟩))
      have h1 := HH.out.move (w' := w1) (ok' := ok) (fun k hk ho => ⟨hb1.block k hk, ho⟩)
      obtain ⟨x0, x1, _⟩ := h1.blk.cells
      have H1 := Lib.hid h1
      clear h1
      have d1 : decide (S.lim ≤ S.fin) = false := decide_eq_false hl
      have d1' : decide ((S.lim : Int) ≤ (S.fin : Int)) = false := decide_eq_false (by omega)
      go_wp2_with fail
      go_quiet (fail)
      have h2 := H1.out.move (w' := w1.drewN nq) (ok' := ok) (fun k hk ho => ⟨rfl, ho⟩)
      have hb2 := below_drewN hb1 nq
      clear x0 x1 H1
      generalize w1.drewN nq = w2 at h2 hb2 ⊢
      obtain ⟨x0, x1, _, _, x4, _⟩ := h2.blk.cells
      have xf := h2.blk.free 0
      have hpf : p ≠ bf := h2.sf.ne h2.blk
      have hb3 := h2.blk.set0 (S.fin + 1)
      have h3 : ∀ k, k ≠ p → (w2.setCell ⟨p, 0, none⟩ (.int .u32 ((S.fin + 1 : Nat) : Int))).heap[k]? = w2.heap[k]? := fun k hk => Below.heap_setCell _ _ _ k hk
      have hv1 : ((S.fin + 1 : Nat) : Int) = (S.fin : Int) + 1 := by omega
      rw [hv1] at hb3
      simp only [hv1] at h3
      have hs3 : (w2.setCell ⟨p, 0, none⟩ (.int .u32 ((S.fin : Int) + 1))).heap.size = w2.heap.size := by simp
      have H2 := Lib.hid h2
      have H3 := Lib.hid h3
      have HB3 := Lib.hid (show SBlk (w2.setCell ⟨p, 0, none⟩ (.int .u32 ((S.fin : Int) + 1))) p (S.fin + 1) S.lim Wv bu bf bg bh from hb3)
      clear h2 h3 hb3 hv1
      go_wp2_with fail
      have hFr3 : SFr ok w (w2.setCell ⟨p, 0, none⟩ (.int .u32 ((S.fin : Int) + 1))) := ⟨hb2.os, hb2.tape, hb2.output, by rw [hs3]; exact hb2.size, fun k hk ho => (H3.out k (fun e => ho (by rw [e]; exact H2.out.okp))).trans (hb2.block k hk)⟩
      have hsf3 : MSet (w2.setCell ⟨p, 0, none⟩ (.int .u32 ((S.fin : Int) + 1))) bf S.fr := H2.out.sf.block (H3.out bf (fun e => H2.out.sf.ne H2.out.blk e.symm))
      have hsu3 : MSet (w2.setCell ⟨p, 0, none⟩ (.int .u32 ((S.fin : Int) + 1))) bu S.us := H2.out.su.block (H3.out bu (fun e => H2.out.su.ne H2.out.blk e.symm))
      have hsg3 : MSet (w2.setCell ⟨p, 0, none⟩ (.int .u32 ((S.fin : Int) + 1))) bg S.gn := H2.out.sg.block (H3.out bg (fun e => H2.out.sg.ne H2.out.blk e.symm))
      have hsh3 : MSet (w2.setCell ⟨p, 0, none⟩ (.int .u32 ((S.fin : Int) + 1))) bh S.hd := H2.out.sh.block (H3.out bh (fun e => H2.out.sh.ne H2.out.blk e.symm))
      have hrow3 : WRow (w2.setCell ⟨p, 0, none⟩ (.int .u32 ((S.fin : Int) + 1))) base ok Wv S.wait := H2.out.row.move (fun g C t ho hC ht => ⟨H3.out g (fun e => by
        subst e
        have hblk := H2.out.blk
        unfold SBlk at hblk
        rw [hC] at hblk
        injection hblk with hblk
        injection hblk with _ hblk
        rcases ht with rfl | rfl
        · exact absurd hblk (by decide)
        · exact absurd hblk (by decide)), ho⟩)
      have hB3 := HB3.out
      generalize w2.setCell ⟨p, 0, none⟩ (.int .u32 ((S.fin : Int) + 1)) = w3 at hFr3 hsf3 hsu3 hsg3 hsh3 hrow3 hB3 ⊢
      refine (add_any w3 bf S.fr hsf3 (by omega) S.fin (by omega) (fun hm => absurd (HWF.out.f1 _ hm).2 (by omega))).mono ?_
      rintro e w4 ⟨rfl, hsf4, hg4⟩
      obtain ⟨n1, n2, n3, n4, n5, n6⟩ := H2.out.d1
      have hfin : SAt w4 base ok p { S with fin := S.fin + 1, fr := S.fr ++ [S.fin] } Wv bu bf bg bh :=
        ⟨hB3.grown hsf3 hg4, H2.out.bp, H2.out.okp, hrow3.grown hsf3 hg4, hsu3.grown_ n1 hg4, hsf4, hsg3.grown_ (Ne.symm n4) hg4, hsh3.grown_ (Ne.symm n5) hg4, H2.out.b1, H2.out.o1, H2.out.d1, HWT.out⟩
      have hFr4 := hFr3.trans (SFr.of_grown hg4 H2.out.o1.2.1)
      clear hsf3 hsu3 hsg3 hsh3 hrow3 hB3 hg4 hsf4
      go_wp2_with fail
      go_ret2
      exact ⟨rfl, ⟨_, _, _, _, _, hfin⟩, hFr4⟩
  · rw [if_neg he] at hlow
    obtain ⟨hmm, _⟩ := minS_mem he
    obtain ⟨q, hq⟩ : ∃ q, minS S.us = q := ⟨_, rfl⟩
    have HT := Lib.hid (show S.take = ({ S with us := S.us.erase q, fr := S.fr ++ [q] }, q, 0) from by unfold Sp.take; rw [if_neg he, hq])
    rw [hq] at hlow hmm
    have hqf := HW0.out.u1 q hmm
    have hqk := key_page q (by omega)
    rw [HT.out] at HWT ⊢
    clear h he hq
    go_enter Try.func44, Try.ntmps44
    go_wp2_with (first
      | (go_at_call 68; refine hlow.mono ?_; rintro e w1 ⟨rfl, hb1⟩; have h1 := HH.out.move (w' := w1) (ok' := ok) (fun k hk ho => ⟨hb1.block k hk, ho⟩); obtain ⟨x0, x1, _, x3, x4, _⟩ := h1.blk.cells; obtain ⟨hund, nn, D0, hown0, hsz, hhas⟩ := h1.su; have hown := own_tight hown0; have htidy := hown.tidy law_page; have hisM := hown.isMap; have HHAS := Lib.hid hhas; have HSZ := Lib.hid hsz; have HTI := Lib.hid htidy; have HIM := Lib.hid hisM; have H1 := Lib.hid h1; clear hhas hsz htidy hisM h1 hown0)
      | (at_delete; refine wpList_delete_own _ rfl _ _ 141 73 rfl 108 law_page Try.underlying141 unitElem bu _ D0 rfl hown _ _ rfl hqk ?_; intro w2 hown2 hturn2; have hg2 := grown_turned hturn2; have H1b := H1.out.blk.grown H1.out.su hg2; obtain ⟨y0, y1, _, y3, y4, _⟩ := H1b.cells; have HB2 := Lib.hid H1b; have HG2 := Lib.hid hg2; have HO2 := Lib.hid hown2; clear H1b hown2))
    obtain ⟨n1, n2, n3, n4, n5, n6⟩ := H1.out.d1
    have hsu2 : MSet w2 bu (S.us.erase q) := MSet.del_ hund HTI.out HIM.out HSZ.out HHAS.out hmm HO2.out
    have hsf2 := H1.out.sf.grown_ (Ne.symm n1) HG2.out
    have hsg2 := H1.out.sg.grown_ (Ne.symm n2) HG2.out
    have hsh2 := H1.out.sh.grown_ (Ne.symm n3) HG2.out
    have hrow2 := H1.out.row.grown H1.out.su HG2.out
    have hFr2 : SFr ok w w2 := (SFr.of_below hb1).trans (SFr.of_grown HG2.out H1.out.o1.1)
    refine (add_any w2 bf S.fr hsf2 (by omega) q (by omega) (fun hm => HW0.out.uf q hmm hm)).mono ?_
    rintro e w4 ⟨rfl, hsf4, hg4⟩
    have hfin : SAt w4 base ok p { S with us := S.us.erase q, fr := S.fr ++ [q] } Wv bu bf bg bh :=
      ⟨HB2.out.grown hsf2 hg4, H1.out.bp, H1.out.okp, hrow2.grown hsf2 hg4, hsu2.grown_ n1 hg4, hsf4, hsg2.grown_ (Ne.symm n4) hg4, hsh2.grown_ (Ne.symm n5) hg4, H1.out.b1, H1.out.o1, H1.out.d1, HWT.out⟩
    have hFr4 := hFr2.trans (SFr.of_grown hg4 H1.out.o1.2.1)
    clear hsf2 hsu2 hsg2 hsh2 hrow2 hg4 hsf4
    go_wp2_with fail
    go_ret2
    exact ⟨rfl, ⟨_, _, _, _, _, hfin⟩, hFr4⟩
end Go.Proofs.Ythijobbhpbklmaa
