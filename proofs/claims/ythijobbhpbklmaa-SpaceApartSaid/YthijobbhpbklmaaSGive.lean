/- Layer 8: Give. -/
import Derived.Test.YthijobbhpbklmaaSTake
namespace Go.Proofs.Ythijobbhpbklmaa
open Go.RowKit Go.Maps
set_option linter.unusedVariables false
set_option linter.unusedSimpArgs false

def Sp.give (S : Sp) (q : Nat) : Sp × Int :=
  if q < 2 ∨ S.fin ≤ q ∨ q ∈ S.us ∨ q ∈ S.hd ∨ q ∈ S.gn then (S, 1) else if q ∈ S.fr then ({ S with us := S.us ++ [q], fr := S.fr.erase q }, 0) else ({ S with gn := S.gn ++ [q] }, 0)
theorem Sp.OK.give {S : Sp} (h : S.OK) (q : Nat) : (S.give q).1.OK := by
  unfold Sp.give
  split
  · exact h
  rename_i hn
  have a1 : 2 ≤ q := by rcases Nat.lt_or_ge q 2 with c | c; exact absurd (.inl c) hn; exact c
  have a2 : q < S.fin := by rcases Nat.lt_or_ge q S.fin with c | c; exact c; exact absurd (.inr (.inl c)) hn
  have a3 : q ∉ S.us := fun c => hn (.inr (.inr (.inl c)))
  have a4 : q ∉ S.hd := fun c => hn (.inr (.inr (.inr (.inl c))))
  have a5 : q ∉ S.gn := fun c => hn (.inr (.inr (.inr (.inr c))))
  split
  · rename_i hf
    have er : ∀ x, x ∈ S.fr.erase q ↔ x ≠ q ∧ x ∈ S.fr := fun x => h.fn.mem_erase_iff
    refine ⟨h.e1, h.e2, h.e3, ?_, fun x hx => h.f1 x ((er x).1 hx).2, h.g1, h.h1, ?_, ?_, ?_, fun x hx => h.fg x ((er x).1 hx).2, fun x hx => h.fh x ((er x).1 hx).2, h.gh, ?_, h.fn.erase q, h.gd, h.hn⟩
    · intro x hx
      rcases List.mem_append.1 hx with hx | hx
      · exact h.u1 x hx
      · rw [List.mem_singleton.1 hx]; exact ⟨a1, a2⟩
    · intro x hx hy
      obtain ⟨y1, y2⟩ := (er x).1 hy
      rcases List.mem_append.1 hx with hx | hx
      · exact h.uf x hx y2
      · exact y1 (List.mem_singleton.1 hx)
    · intro x hx hy
      rcases List.mem_append.1 hx with hx | hx
      · exact h.ug x hx hy
      · rw [List.mem_singleton.1 hx] at hy; exact a5 hy
    · intro x hx hy
      rcases List.mem_append.1 hx with hx | hx
      · exact h.uh x hx hy
      · rw [List.mem_singleton.1 hx] at hy; exact a4 hy
    · exact List.nodup_append.2 ⟨h.un, by simp, fun a ha c hc e => by rw [List.mem_singleton.1 hc] at e; exact a3 (e ▸ ha)⟩
  · rename_i hf
    refine ⟨h.e1, h.e2, h.e3, h.u1, h.f1, ?_, h.h1, h.uf, ?_, h.uh, ?_, h.fh, ?_, h.un, h.fn, ?_, h.hn⟩
    · intro x hx
      rcases List.mem_append.1 hx with hx | hx
      · exact h.g1 x hx
      · rw [List.mem_singleton.1 hx]; exact ⟨a1, a2⟩
    · intro x hx hy
      rcases List.mem_append.1 hy with hy | hy
      · exact h.ug x hx hy
      · rw [List.mem_singleton.1 hy] at hx; exact a3 hx
    · intro x hx hy
      rcases List.mem_append.1 hy with hy | hy
      · exact h.fg x hx hy
      · rw [List.mem_singleton.1 hy] at hx; exact hf hx
    · intro x hx hy
      rcases List.mem_append.1 hx with hx | hx
      · exact h.gh x hx hy
      · rw [List.mem_singleton.1 hx] at hy; exact a4 hy
    · exact List.nodup_append.2 ⟨h.gd, by simp, fun a ha c hc e => by rw [List.mem_singleton.1 hc] at e; exact a5 (e ▸ ha)⟩
def SGiveP (w : World) (base : Nat) (ok : Nat → Prop) (p : Nat) (S : Sp) (q : Nat) (e : Ending) (w' : World) : Prop :=
  e = .returned (.int .i64 (S.give q).2) ∧ SpAt w' base ok p (S.give q).1 ∧ SFr ok w w'
theorem give_no {S : Sp} {q : Nat} (h : q < 2 ∨ S.fin ≤ q ∨ q ∈ S.us ∨ q ∈ S.hd ∨ q ∈ S.gn) : S.give q = (S, 1) := by unfold Sp.give; rw [if_pos h]
set_option maxRecDepth 100000 in
set_option maxHeartbeats 1000000 in
theorem sgive_any {w : World} {base : Nat} {ok : Nat → Prop} {p : Nat} {S : Sp} (h : SpAt w base ok p S) (q : Nat) (hq : q < 4294967296) :
    Calls Try.prog 46 #[.pointer (some ⟨p, 0, none⟩), .int .u32 (q : Int)] w (SGiveP w base ok p S q) := by
  obtain ⟨Wv, bu, bf, bg, bh, h⟩ := h
  have e2 := h.wf.e2
  have e3 := h.wf.e3
  have hul := nodup_len h.wf.un (fun q hq => (h.wf.u1 q hq).2)
  have hfl := nodup_len h.wf.fn (fun q hq => (h.wf.f1 q hq).2)
  have hgl := nodup_len h.wf.gd (fun q hq => (h.wf.g1 q hq).2)
  have HWT := Lib.hid (h.wf.give q)
  have HW := Lib.hid h.wf
  obtain ⟨x0, _, _, x3, x4, x5, x6⟩ := h.blk.cells
  have HH := Lib.hid h
  clear h
  unfold SGiveP
  by_cases c1 : q < 2
  · rw [give_no (.inl c1)]
    have d1 : decide (q < 2) = true := decide_eq_true c1
    have d1' : decide ((q : Int) < 2) = true := decide_eq_true (by omega)
    go_enter Try.func46, Try.ntmps46
    go_wp2_with fail
    go_ret
    exact ⟨rfl, ⟨_, _, _, _, _, HH.out⟩, SFr.refl _ _⟩
  have d1 : decide (q < 2) = false := decide_eq_false c1
  have d1' : decide ((q : Int) < 2) = false := decide_eq_false (by omega)
  by_cases c2 : S.fin ≤ q
  · rw [give_no (.inr (.inl c2))]
    have d2 : decide (S.fin ≤ q) = true := decide_eq_true c2
    have d2' : decide ((S.fin : Int) ≤ (q : Int)) = true := decide_eq_true (by omega)
    go_enter Try.func46, Try.ntmps46
    go_wp2_with fail
    go_ret
    exact ⟨rfl, ⟨_, _, _, _, _, HH.out⟩, SFr.refl _ _⟩
  have d2 : decide (S.fin ≤ q) = false := decide_eq_false c2
  have d2' : decide ((S.fin : Int) ≤ (q : Int)) = false := decide_eq_false (by omega)
  go_enter Try.func46, Try.ntmps46
  go_wp2_with fail
  refine (has_any w bu S.us HH.out.su q hq).mono ?_
  rintro e w1 ⟨rfl, hb1⟩
  by_cases c3 : q ∈ S.us
  · have HGN := Lib.hid (give_no (.inr (.inr (.inl c3))))
    rw [decide_eq_true c3]
    go_wp2_with fail
    go_ret
    rw [HGN.out]
    exact ⟨rfl, ⟨_, _, _, _, _, HH.out.move (fun k hk ho => ⟨hb1.block k hk, ho⟩)⟩, SFr.of_below hb1⟩
  rw [decide_eq_false c3]
  have H1 := Lib.hid (HH.out.move (w' := w1) (ok' := ok) (fun k hk ho => ⟨hb1.block k hk, ho⟩))
  obtain ⟨x0, _, _, x3, x4, x5, x6⟩ := H1.out.blk.cells
  go_wp2_with fail
  refine (has_any w1 bh S.hd H1.out.sh q hq).mono ?_
  rintro e w2 ⟨rfl, hb2⟩
  have hb2' := hb1.trans (hb2.mono hb1.size)
  by_cases c4 : q ∈ S.hd
  · have HGN := Lib.hid (give_no (.inr (.inr (.inr (.inl c4)))))
    rw [decide_eq_true c4]
    go_wp2_with fail
    go_ret
    rw [HGN.out]
    exact ⟨rfl, ⟨_, _, _, _, _, H1.out.move (fun k hk ho => ⟨hb2.block k hk, ho⟩)⟩, SFr.of_below hb2'⟩
  rw [decide_eq_false c4]
  have H2 := Lib.hid (H1.out.move (w' := w2) (ok' := ok) (fun k hk ho => ⟨hb2.block k hk, ho⟩))
  clear x0 x3 x4 x5 x6
  obtain ⟨x0, _, _, x3, x4, x5, x6⟩ := H2.out.blk.cells
  go_wp2_with fail
  refine (has_any w2 bg S.gn H2.out.sg q hq).mono ?_
  rintro e w3 ⟨rfl, hb3⟩
  have hb3' := hb2'.trans (hb3.mono hb2'.size)
  by_cases c5 : q ∈ S.gn
  · have HGN := Lib.hid (give_no (.inr (.inr (.inr (.inr c5)))))
    rw [decide_eq_true c5]
    go_wp2_with fail
    go_ret
    rw [HGN.out]
    exact ⟨rfl, ⟨_, _, _, _, _, H2.out.move (fun k hk ho => ⟨hb3.block k hk, ho⟩)⟩, SFr.of_below hb3'⟩
  rw [decide_eq_false c5]
  have H3 := Lib.hid (H2.out.move (w' := w3) (ok' := ok) (fun k hk ho => ⟨hb3.block k hk, ho⟩))
  clear x0 x3 x4 x5 x6
  obtain ⟨x0, _, _, x3, x4, x5, x6⟩ := H3.out.blk.cells
  have hno : ¬ (q < 2 ∨ S.fin ≤ q ∨ q ∈ S.us ∨ q ∈ S.hd ∨ q ∈ S.gn) := by rintro (h | h | h | h | h); exact c1 h; exact c2 h; exact c3 h; exact c4 h; exact c5 h
  have HNO := Lib.hid hno
  clear hno
  go_wp2_with fail
  refine (has_any w3 bf S.fr H3.out.sf q hq).mono ?_
  rintro e w4 ⟨rfl, hb4⟩
  have hb4' := hb3'.trans (hb4.mono hb3'.size)
  have H4 := Lib.hid (H3.out.move (w' := w4) (ok' := ok) (fun k hk ho => ⟨hb4.block k hk, ho⟩))
  clear x0 x3 x4 x5 x6
  obtain ⟨x0, _, _, x3, x4, x5, x6⟩ := H4.out.blk.cells
  obtain ⟨n1, n2, n3, n4, n5, n6⟩ := H4.out.d1
  by_cases c6 : q ∈ S.fr
  · rw [decide_eq_true c6]
    have HG := Lib.hid (show S.give q = ({ S with us := S.us ++ [q], fr := S.fr.erase q }, 0) from by unfold Sp.give; rw [if_neg HNO.out, if_pos c6])
    rw [HG.out] at HWT
    have hqk := key_page q hq
    obtain ⟨hfnd, nn, D0, hown0, hsz, hhas⟩ := H4.out.sf
    have hown := own_tight hown0
    have HTI := Lib.hid (hown.tidy law_page)
    have HIM := Lib.hid hown.isMap
    have HHAS := Lib.hid hhas
    have HSZ := Lib.hid hsz
    clear hown0 hsz hhas
    go_wp2_with (first
      | (at_delete; refine wpList_delete_own _ rfl _ _ 141 73 rfl 108 law_page Try.underlying141 unitElem bf _ D0 rfl hown _ _ rfl hqk ?_; intro w5 hown5 hturn5; have hg5 := grown_turned hturn5; have H5b := H4.out.blk.grown H4.out.sf hg5; obtain ⟨y0, _, _, y3, y4, y5, y6⟩ := H5b.cells; have HB5 := Lib.hid H5b; have HG5 := Lib.hid hg5; have HO5 := Lib.hid hown5; clear H5b hown5))
    have hsf5 : MSet w5 bf (S.fr.erase q) := MSet.del_ hfnd HTI.out HIM.out HSZ.out HHAS.out c6 HO5.out
    have hsu5 := H4.out.su.grown_ n1 HG5.out
    have hsg5 := H4.out.sg.grown_ (Ne.symm n4) HG5.out
    have hsh5 := H4.out.sh.grown_ (Ne.symm n5) HG5.out
    have hrow5 := H4.out.row.grown H4.out.sf HG5.out
    have hFr5 : SFr ok w w5 := (SFr.of_below hb4').trans (SFr.of_grown HG5.out H4.out.o1.2.1)
    refine (add_any w5 bu S.us hsu5 (by omega) q hq c3).mono ?_
    rintro e w6 ⟨rfl, hsu6, hg6⟩
    have hfin : SAt w6 base ok p { S with us := S.us ++ [q], fr := S.fr.erase q } Wv bu bf bg bh :=
      ⟨HB5.out.grown hsu5 hg6, H4.out.bp, H4.out.okp, hrow5.grown hsu5 hg6, hsu6, hsf5.grown_ (Ne.symm n1) hg6, hsg5.grown_ (Ne.symm n2) hg6, hsh5.grown_ (Ne.symm n3) hg6, H4.out.b1, H4.out.o1, H4.out.d1, HWT.out⟩
    have hFr6 := hFr5.trans (SFr.of_grown hg6 H4.out.o1.1)
    clear hsf5 hsu5 hsg5 hsh5 hrow5 hg6 hsu6
    go_wp2_with fail
    go_ret
    rw [HG.out]
    exact ⟨rfl, ⟨_, _, _, _, _, hfin⟩, hFr6⟩
  · rw [decide_eq_false c6]
    have HG := Lib.hid (show S.give q = ({ S with gn := S.gn ++ [q] }, 0) from by unfold Sp.give; rw [if_neg HNO.out, if_neg c6])
    rw [HG.out] at HWT
    go_wp2_with fail
    refine (add_any w4 bg S.gn H4.out.sg (by omega) q hq c5).mono ?_
    rintro e w6 ⟨rfl, hsg6, hg6⟩
    have hfin : SAt w6 base ok p { S with gn := S.gn ++ [q] } Wv bu bf bg bh :=
      ⟨H4.out.blk.grown H4.out.sg hg6, H4.out.bp, H4.out.okp, H4.out.row.grown H4.out.sg hg6, H4.out.su.grown_ n2 hg6, H4.out.sf.grown_ n4 hg6, hsg6, H4.out.sh.grown_ (Ne.symm n6) hg6, H4.out.b1, H4.out.o1, H4.out.d1, HWT.out⟩
    have hFr6 := (SFr.of_below hb4').trans (SFr.of_grown hg6 H4.out.o1.2.2.1)
    clear hg6 hsg6
    go_wp2_with fail
    go_ret
    rw [HG.out]
    exact ⟨rfl, ⟨_, _, _, _, _, hfin⟩, hFr6⟩
end Go.Proofs.Ythijobbhpbklmaa
