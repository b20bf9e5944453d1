/- DPlayA; DPlayB; DPlayC -/
import Derived.Test.YthijobbhpbklmaaDkPl5
import Derived.Test.YthijobbhpbklmaaDkPl3
import Derived.Test.YthijobbhpbklmaaDkPl7
import Derived.BigQuiet
set_option linter.unusedVariables false
set_option linter.unusedSimpArgs false
/- DiskPlays: full with a byte less; alike; From that fails. -/
namespace Go.Proofs.Ythijobbhpbklmaa
open Go.RowKit Go.Proofs.YthijobbhpbklmaaW.PrintWords Go.Proofs.Ythijobbhpbklmaa.PDiskPlays
theorem run_slice_pre {P : Program} (t e : TypeId) {i : TypeInfo} (ht : P.underlying t = some (.slice e)) (hi : P.info? e = some i) (hsz : i.size = 1) (g n c m : Nat) (hm : m ≤ n) (hc : n ≤ c) (h0 : 0 < c) (W : World) :
    (Instr.slice t (.slice (some ⟨g, 0, none⟩) n c) none (some (.int .i64 (m : Int))) none).run P W = .ok (.slice (some ⟨g, 0, none⟩) m c) W := by
  have hel : P.elem t = e := by simp [Program.elem, ht]
  have hu : P.underlying t = some (.slice (P.elem t)) := by rw [hel]; exact ht
  rw [run_slice_h W t (some ⟨g, 0, none⟩) n c hu .i64 (m : Int) (Int.natCast_nonneg _) (by omega), hel]
  have e1 : ¬ c = 0 := by omega
  simp [sizeOf, typeInfo, hi, hsz, sliced, Result.andThen, e1, add_plain]
set_option maxRecDepth 100000 in
theorem full_odd (w : World) (size : Nat) (h0 : 0 < size) (h1 : size ≤ 1000000) (B : Nat) (A : Option Addr) (n c : Nat) (b : List UInt8) (hb : Sl w B A n c b) (hB : B ≤ w.heap.size) (hn : 0 < n) (hn2 : n ≤ 9223372036854775807) :
    Calls Try.prog 22 #[.int .i64 (size : Int), .slice A n c, .bool true] w fun e w' => e = .returned (.slice (some ⟨w.heap.size, 0, none⟩) (size - 1) size) ∧ RowB w' w.heap.size (fullB size b) ∧ Below w.heap.size w w' := by
  have hd0 : decide (0 < n) = true := decide_eq_true hn
  have hd0' : decide ((0 : Int) < (n : Int)) = true := decide_eq_true (by omega)
  have hlen := hb.len
  have HB := Lib.hid hb
  obtain ⟨iu, ui0, uz0, uz1, uz2⟩ := info_parts info_u8
  obtain ⟨s1, hs1⟩ : ∃ s1, size - 1 = s1 := ⟨_, rfl⟩
  have hsi : (size : Int) - 1 = (s1 : Int) := by omega
  have hcut := run_slice_pre (P := Try.prog) 30 5 Try.underlying30 ui0 uz1 w.heap.size size size s1 (by omega) (Nat.le_refl _) (by omega)
  have hz0 : decide ((0 : Int) < (size : Int)) = true := decide_eq_true (by omega)
  have hz0' : decide (0 < size) = true := decide_eq_true (by omega)
  rw [hs1]
  clear hb
  go_enter Try.func22, Try.ntmps22
  go_wp2_with (first | (at_make; refine wpList_make_bytesN _ rfl _ _ _ rfl Try.underlying30 info_u8 _ _ _ rfl rfl size rfl (by omega) ?_; intro w2 hr2 hb2))
  go_loopw [8] (fun i wr => ∃ k : Nat, k ≤ size ∧ i = .int .i64 (k : Int) ∧ RowB wr w.heap.size (fullTo size b k) ∧ Below w.heap.size w wr) (fun i _ => size - (intOf i).toNat)
  case atStart => exact ⟨0, Nat.zero_le _, rfl, by rw [fullTo_zero]; exact hr2, hb2⟩
  case round =>
    obtain ⟨k, hk, rfl, hr, hbw⟩ := hrel
    by_cases hlt : k < size
    · have hd1 : decide (k < size) = true := decide_eq_true hlt
      have hd1' : decide ((k : Int) < (size : Int)) = true := decide_eq_true (by omega)
      have hm : k % n < n := Nat.mod_lt _ hn
      obtain ⟨ad, x, rfl, hx, hxc⟩ : ∃ ad x, A = some ad ∧ b[k % n]? = some x ∧ wr.cell? (ad.add (k % n)) = some (.int .u8 (x.toNat : Int)) := by
        obtain ⟨ad, u, ea, hb', hu, hc⟩ := (HB.out.below (Below.mono hbw hB)).reads.at_ hm
        simp only [bv, List.getElem?_map, Option.map_eq_some_iff] at hu
        obtain ⟨q, hq, rfl⟩ := hu
        exact ⟨ad, q, ea, hq, hc⟩
      have htm : (k : Int).tmod (n : Int) = ((k % n : Nat) : Int) := by rw [Int.tmod_eq_emod_of_nonneg (by omega)]; rfl
      have hnz : ¬ (n : Int) = 0 := by omega
      have hgl := fullTo_length size b k
      obtain ⟨y, hy⟩ : ∃ y, (fullTo size b k)[k]? = some y := ⟨_, List.getElem?_eq_getElem (by rw [hgl]; exact hlt)⟩
      have hyc := hr.cell hy
      have hyf := hr.frozen k
      have hr9 := hr.set_ k x
      rw [fullTo_succ size b k (by rw [hlen]; exact hx)] at hr9
      have HR9 := Lib.hid hr9
      have hb9 := hbw.setCell (p := ⟨w.heap.size, k, none⟩) (Nat.le_refl _) (.int .u8 (x.toNat : Int))
      have HB9 := Lib.hid hb9
      clear hr hr9 hb9 hy hgl hx
      go_wp2_with fail
      exact ⟨⟨k + 1, by omega, by go_num, HR9.out, HB9.out⟩, by simp [intOf]; omega⟩
    · obtain rfl : k = size := by omega
      go_wp2_with fail
      go_ret
      exact ⟨rfl, hr, hbw⟩
set_option maxRecDepth 100000 in
theorem full_none_odd (w : World) (size : Nat) (h0 : 0 < size) (h1 : size ≤ 1000000) (A : Option Addr) (c : Nat) :
    Calls Try.prog 22 #[.int .i64 (size : Int), .slice A 0 c, .bool true] w fun e w' => e = .returned (.slice (some ⟨w.heap.size, 0, none⟩) (size - 1) size) ∧ RowB w' w.heap.size (fullB size []) ∧ Below w.heap.size w w' := by
  have hd1 : decide (0 < size) = true := decide_eq_true h0
  have hd1' : decide ((0 : Int) < (size : Int)) = true := decide_eq_true (by omega)
  obtain ⟨iu, ui0, uz0, uz1, uz2⟩ := info_parts info_u8
  obtain ⟨s1, hs1⟩ : ∃ s1, size - 1 = s1 := ⟨_, rfl⟩
  have hsi : (size : Int) - 1 = (s1 : Int) := by omega
  have hcut := run_slice_pre (P := Try.prog) 30 5 Try.underlying30 ui0 uz1 w.heap.size size size s1 (by omega) (Nat.le_refl _) (by omega)
  rw [hs1]
  go_enter Try.func22, Try.ntmps22
  go_wp2_with (first | (at_make; refine wpList_make_bytesN _ rfl _ _ _ rfl Try.underlying30 info_u8 _ _ _ rfl rfl size rfl (by omega) ?_; intro w2 hr2 hb2))
  go_loopw [8] (fun i wr => i = .int .i64 0 ∧ wr = w2) (fun i _ => 0)
  case atStart => exact ⟨rfl, rfl⟩
  case round =>
    obtain ⟨rfl, rfl⟩ := hrel
    go_wp2_with fail
    go_ret
    exact ⟨rfl, by rw [fullB_nil]; exact hr2, hb2⟩
theorem alike_any (w : World) (base : Nat) (ok : Nat → Prop) (p : Nat) (D : Dk) (h : DiskAt w base ok p D) (A2 A3 : Option Addr) (c2 c3 : Nat) :
    Calls Try.prog 36 #[.pointer (some ⟨p, 0, none⟩), .agg #[.int .i64 (D.size : Int), .int .i64 (D.limit : Int), .slice A2 D.good.length c2, .slice A3 D.loose.length c3, .int .i64 D.fails, .int .i64 (D.calls : Int)]] w fun e w' => e = .returned (.bool true) ∧ Below w.heap.size w w' := by
  obtain ⟨n2, hn2⟩ : ∃ n, D.good.length = n := ⟨_, rfl⟩
  obtain ⟨n3, hn3⟩ : ∃ n, D.loose.length = n := ⟨_, rfl⟩
  obtain ⟨S, hS⟩ : ∃ n, D.size = n := ⟨_, rfl⟩
  obtain ⟨L, hL⟩ : ∃ n, D.limit = n := ⟨_, rfl⟩
  obtain ⟨C, hC⟩ : ∃ n, D.calls = n := ⟨_, rfl⟩
  have hlen := fun (W : World) (hb : Below w.heap.size w W) => dlen_any (h.below hb)
  have hsize := fun (W : World) (hb : Below w.heap.size w W) => dsize_any (h.below hb)
  have hlimit := fun (W : World) (hb : Below w.heap.size w W) => dlimit_any (h.below hb)
  have hloose := fun (W : World) (hb : Below w.heap.size w W) => dloose_any (h.below hb)
  have hcalls := fun (W : World) (hb : Below w.heap.size w W) => dcalls_any (h.below hb)
  rw [hn2] at hlen ⊢
  rw [hS] at hsize ⊢
  rw [hL] at hlimit ⊢
  rw [hn3] at hloose ⊢
  rw [hC] at hcalls ⊢
  have hb1 : Below w.heap.size w (w.alloc (.cells #[.int .i64 (S : Int), .int .i64 (L : Int), .slice A2 n2 c2, .slice A3 n3 c3, .int .i64 D.fails, .int .i64 (C : Int)] 47)) := (Below.refl _ w).alloc (Nat.le_refl _) _
  have HB := fun nq => below_drewN hb1 nq
  have hX : RBox (w.alloc (.cells #[.int .i64 (S : Int), .int .i64 (L : Int), .slice A2 n2 c2, .slice A3 n3 c3, .int .i64 D.fails, .int .i64 (C : Int)] 47)) w.heap.size S L (.slice A2 n2 c2) (.slice A3 n3 c3) D.fails C := heap_alloc_new w _
  clear h hn2 hn3 hS hL hC
  generalize D.fails = F at hX hb1 HB ⊢
  have HL := Lib.hid hlen
  have HS := Lib.hid hsize
  have HI := Lib.hid hlimit
  have HO := Lib.hid hloose
  have HC := Lib.hid hcalls
  clear hlen hsize hlimit hloose hcalls
  go_enter Try.func36, Try.ntmps36
  go_wp2_with fail
  obtain ⟨x0, x1, x2, x3, x4, x5⟩ := hX.cells
  generalize hW : w.alloc (.cells #[.int .i64 (S : Int), .int .i64 (L : Int), .slice A2 n2 c2, .slice A3 n3 c3, .int .i64 F, .int .i64 (C : Int)] 47) = w1 at *
  have HB2 := Lib.hid HB
  clear HB
  go_quiet (first | exact (HL.out _ (HB2.out _)).mono (fun e w'' hh => ⟨hh.1, _, hh.2.symm⟩) | exact (HS.out _ (HB2.out _)).mono (fun e w'' hh => ⟨hh.1, _, hh.2.symm⟩) | exact (HI.out _ (HB2.out _)).mono (fun e w'' hh => ⟨hh.1, _, hh.2.symm⟩) | exact (HO.out _ (HB2.out _)).mono (fun e w'' hh => ⟨hh.1, _, hh.2.symm⟩) | exact (HC.out _ (HB2.out _)).mono (fun e w'' hh => ⟨hh.1, _, hh.2.symm⟩))
  go_wp2_with fail
  go_ret
  exact ⟨rfl, HB2.out _⟩
end Go.Proofs.Ythijobbhpbklmaa

/- DiskPlays: From that fails; the state of the law. -/
namespace Go.Proofs.Ythijobbhpbklmaa
open Go.RowKit Go.Proofs.YthijobbhpbklmaaW.PrintWords Go.Proofs.Ythijobbhpbklmaa.PDiskPlays
theorem dfrom_no (w : World) (A : Option Addr) (N c : Nat) (hN : N ≤ 1000000) (S L : Int) (h : ¬ (NewOk S L ∧ (N : Int) % S = 0 ∧ (N : Int) / S ≤ L)) :
    Calls Try.prog 28 #[.slice A N c, .int .i64 S, .int .i64 L] w fun e w' => e = .returned (.tuple #[.pointer none, .int .i64 1]) ∧ Below w.heap.size w w' := by
  by_cases hn : NewOk S L
  · obtain ⟨s, rfl⟩ := Int.eq_ofNat_of_zero_le (show 0 ≤ S by have := hn.1; omega)
    obtain ⟨m, rfl⟩ := Int.eq_ofNat_of_zero_le (show 0 ≤ L by have := hn.2.2.2.1; omega)
    have hnew := dnew_blk w s m hn
    obtain ⟨h1, h2, h3, h4, h5⟩ := hn
    have hnz : ¬ (s : Int) = 0 := by omega
    obtain ⟨r, hr⟩ : ∃ r : Nat, N % s = r := ⟨_, rfl⟩
    obtain ⟨q, hq⟩ : ∃ q : Nat, N / s = q := ⟨_, rfl⟩
    have hqN : q ≤ N := by rw [← hq]; exact Nat.div_le_self _ _
    have hre : (N : Int) % (s : Int) = (r : Int) := by rw [← hr]; rfl
    have hqe : (N : Int) / (s : Int) = (q : Int) := by rw [← hq]; rfl
    have hrem : (N : Int).tmod (s : Int) = (r : Int) := by rw [Int.tmod_eq_emod_of_nonneg (by omega)]; exact hre
    have hquo : (N : Int).tdiv (s : Int) = (q : Int) := by rw [Int.tdiv_eq_ediv_of_nonneg (by omega)]; exact hqe
    by_cases hr0 : r = 0
    · subst hr0
      have hq1 : m < q := by
        rw [hre, hqe] at h
        rcases Nat.lt_or_ge m q with c | c
        · exact c
        · exact absurd ⟨⟨h1, h2, h3, h4, h5⟩, rfl, by omega⟩ h
      have d1 : decide (m < q) = true := decide_eq_true hq1
      have d1' : decide ((m : Int) < (q : Int)) = true := decide_eq_true (by omega)
      clear h hr hq
      go_enter Try.func28, Try.ntmps28
      go_wp2_with (first | (go_at_call 15; refine hnew.mono ?_; rintro e w1 ⟨rfl, hD1, hb1⟩))
      go_ret2
      exact ⟨rfl, hb1.alloc hb1.size _⟩
    · have d1 : ((r : Int) == 0) = false := by simp [hr0]
      have d2 : (r == 0) = false := by simp [hr0]
      clear h hr hq
      go_enter Try.func28, Try.ntmps28
      go_wp2_with (first | (go_at_call 15; refine hnew.mono ?_; rintro e w1 ⟨rfl, hD1, hb1⟩))
      go_ret2
      exact ⟨rfl, hb1.alloc hb1.size _⟩
  · have hnew := dnew_no w S L hn
    clear h hn
    go_enter Try.func28, Try.ntmps28
    go_wp2_with (first | (go_at_call 15; refine hnew.mono ?_; rintro e w1 ⟨rfl, rfl⟩))
    go_ret2
    exact ⟨rfl, (Below.refl _ _).alloc (Nat.le_refl _) _⟩
structure DSt (w0 w : World) (b p : Nat) (okD okR : Nat → Prop) (D : Dk) (v2 v3 : Value) : Prop where
  disk : DiskAt w b okD p D
  r2 : Kd.R Kd.string 9 w b okR v2 (bl D.good)
  r3 : Kd.R k135 135 w b okR v3 (wl D.loose)
  dis : ∀ k, okR k → ¬ okD k
  frD : ∀ k, w.heap.size ≤ k → okD k
  bd : ∀ k, k < b → ¬ okD k
  bs_ : b ≤ w.heap.size
  bel : Below b w0 w
theorem DiskAt.wf' {w : World} {base p : Nat} {ok : Nat → Prop} {D : Dk} (h : DiskAt w base ok p D) : D.OK := by
  obtain ⟨_, _, _, _, h⟩ := h
  exact h.wf
theorem DiskAt.bp' {w : World} {base p : Nat} {ok : Nat → Prop} {D : Dk} (h : DiskAt w base ok p D) : p < w.heap.size ∧ ok p := by
  obtain ⟨_, _, _, _, h⟩ := h
  exact ⟨h.blk.lt, h.okp⟩
section
variable {w0 w w' : World} {b p : Nat} {okD okR : Nat → Prop} {D D' : Dk} {v2 v3 v2' v3' : Value}
theorem DSt.below (h : DSt w0 w b p okD okR D v2 v3) (hb : Below w.heap.size w w') : DSt w0 w' b p (fun k => okD k ∧ (k < w.heap.size ∨ w'.heap.size ≤ k)) okR D v2 v3 :=
  ⟨h.disk.other fun k hk ho => ⟨hb.block k hk, ho, .inl hk⟩, Kd.R_below h.r2 hb, Kd.R_below h.r3 hb, fun k hk ho => h.dis k hk ho.1, fun k hk => ⟨h.frD k (Nat.le_trans hb.size hk), .inr hk⟩, fun k hk ho => h.bd k hk ho.1, Nat.le_trans h.bs_ hb.size, h.bel.trans (hb.mono h.bs_)⟩
theorem DSt.set (h : DSt w0 w b p okD okR D v2 v3) {g : Nat} (hg : ¬ okD g) (hg2 : ¬ okR g) (hgb : b ≤ g) (i : Nat) (u : Value) : DSt w0 (w.setCell ⟨g, i, none⟩ u) b p okD okR D v2 v3 :=
  ⟨h.disk.other fun k _ ho => ⟨Below.heap_setCell _ _ _ _ (fun e => hg (by have e : k = g := e; rw [← e]; exact ho)), ho⟩, Kd.R_far h.r2 (fun k hk e => hg2 (by have e : k = g := e; rw [← e]; exact hk)) u, Kd.R_far h.r3 (fun k hk e => hg2 (by have e : k = g := e; rw [← e]; exact hk)) u, h.dis, fun k hk => h.frD k (by simpa using hk), h.bd, by simpa using h.bs_, h.bel.setCell hgb u⟩
theorem DSt.prog (h : DSt w0 w b p okD okR D v2 v3) (hD : DiskAt w' b okD p D') (hF : Fr okD w w') : DiskAt w' b okD p D' ∧ Kd.R Kd.string 9 w' b okR v2 (bl D.good) ∧ Kd.R k135 135 w' b okR v3 (wl D.loose) ∧ b ≤ w'.heap.size ∧ Below b w0 w' ∧ (∀ k, w'.heap.size ≤ k → okD k) :=
  ⟨hD, Kd.R_step h.r2 (fun k hk hl => hF.2.2.2.2 k hl (h.dis k hk)), Kd.R_step h.r3 (fun k hk hl => hF.2.2.2.2 k hl (h.dis k hk)), Nat.le_trans h.bs_ hF.size, h.bel.trans (hF.below h.bs_ h.bd), fun k hk => h.frD k (Nat.le_trans hF.size hk)⟩
theorem DSt.refer (hD : DiskAt w b okD p D') (hdis : ∀ k, okR k → ¬ okD k) (hbd : ∀ k, k < b → ¬ okD k) (hfr : ∀ k, w.heap.size ≤ k → okD k) (hbs : b ≤ w.heap.size) (hbel : Below b w0 w')
    {P : Nat → Prop} (hP : ∀ k, P k → okR k ∨ w.heap.size ≤ k) (hK : Kept w w' okR) (h2 : Kd.R Kd.string 9 w' b P v2' (bl D'.good)) (h3 : Kd.R k135 135 w' b P v3' (wl D'.loose)) :
    DSt w0 w' b p (fun k => okD k ∧ (k < w.heap.size ∨ w'.heap.size ≤ k)) (fun k => okR k ∨ (w.heap.size ≤ k ∧ k < w'.heap.size)) D' v2' v3' := by
  have hR : ∀ k, (P k ∧ k < w'.heap.size) → okR k ∨ (w.heap.size ≤ k ∧ k < w'.heap.size) := fun k hk => by
    rcases hP k hk.1 with h | h
    · exact .inl h
    · exact .inr ⟨h, hk.2⟩
  refine ⟨hD.other fun k hk ho => ⟨hK.2 k hk (fun hr => hdis k hr ho), ho, .inl hk⟩, Kd.R_mono (Kd.R_bound h2) (fun k hk => hR k ⟨hk.1, hk.2.2.1⟩), Kd.R_mono (Kd.R_bound h3) (fun k hk => hR k ⟨hk.1, hk.2.2.1⟩), ?_, fun k hk => ⟨hfr k (Nat.le_trans hK.1 hk), .inr hk⟩, fun k hk ho => hbd k hk ho.1, Nat.le_trans hbs hK.1, hbel⟩
  rintro k (hk | hk) ⟨ho, hl⟩
  · exact hdis k hk ho
  · omega
end
end Go.Proofs.Ythijobbhpbklmaa

/- DiskPlays: the reference's calls as the law meets them. -/
namespace Go.Proofs.Ythijobbhpbklmaa
open Go.RowKit Go.Proofs.YthijobbhpbklmaaW.PrintWords Go.Proofs.Ythijobbhpbklmaa.PDiskPlays
set_option linter.unusedSectionVars false
def RefP (w0 w w' : World) (b : Nat) (okR : Nat → Prop) (v2 v3 : Value) (D : Dk) : Prop :=
  Below b w0 w' ∧ Kept w w' okR ∧ Kd.R Kd.string 9 w' b (fun k => okR k ∨ w.heap.size ≤ k) v2 (bl D.good) ∧ Kd.R k135 135 w' b (fun k => okR k ∨ w.heap.size ≤ k) v3 (wl D.loose)
section
variable {w0 w : World} {b : Nat} (hb : w0.heap.size = b) {okR : Nat → Prop} {v2 v3 : Value} {D : Dk} (h2 : Kd.R Kd.string 9 w b okR v2 (bl D.good)) (h3 : Kd.R k135 135 w b okR v3 (wl D.loose)) (hbel : Below b w0 w) (hok : D.OK) (hc : D.calls < 1000000000) (hlo : D.loose.length ≤ 1000000000)
include hb h2 h3 hbel
theorem mk_ref {w' : World} {v2' v3' : Value} {D' : Dk} (k2 : Kd.R Kd.string 9 w' w0.heap.size (fun k => ((okR k ∨ okR k) ∨ w.heap.size ≤ k)) v2' (bl D'.good)) (k3 : Kd.R k135 135 w' w0.heap.size (fun k => ((okR k ∨ okR k) ∨ w.heap.size ≤ k)) v3' (wl D'.loose)) (k4 : Below w0.heap.size w0 w') (k5 : Kept w w' (fun k => okR k ∨ okR k)) : RefP w0 w w' b okR v2' v3' D' := by
  subst hb
  exact ⟨k4, ⟨k5.1, fun i hi hn => k5.2 i hi (by rintro (h | h) <;> exact hn h)⟩, Kd.R_mono k2 (fun k hk => by rcases hk with (h | h) | h; exact .inl h; exact .inl h; exact .inr h), Kd.R_mono k3 (fun k hk => by rcases hk with (h | h) | h; exact .inl h; exact .inl h; exact .inr h)⟩
include hok hc
theorem rgrow_any (N : Int) : Calls Try.prog 32 #[.agg #[.int .i64 (D.size : Int), .int .i64 (D.limit : Int), v2, v3, .int .i64 D.fails, .int .i64 (D.calls : Int)], .int .i64 N] w fun e w' => ∃ v2' v3',
    e = .returned (.tuple #[.agg #[.int .i64 ((D.sGrow N).1.size : Int), .int .i64 ((D.sGrow N).1.limit : Int), v2', v3', .int .i64 (D.sGrow N).1.fails, .int .i64 ((D.sGrow N).1.calls : Int)], .int .i64 (D.sGrow N).2]) ∧ RefP w0 w w' b okR v2' v3' (D.sGrow N).1 := by
  obtain ⟨k, hk⟩ := r_grow hok hc N
  refine (rubricatorref03_Grow.calls k _ _ okR v2 _ okR v3 _ _ _ N _ _ _ _ _ _ _ w0 w (by rw [hb]; exact hbel) (by rw [hb]; exact h2) (by rw [hb]; exact h3) hk).mono ?_
  rintro e w' ⟨v2', v3', rfl, k2, k3, k4, k5⟩
  exact ⟨v2', v3', rfl, mk_ref hb h2 h3 hbel k2 k3 k4 k5⟩
include hlo
theorem rwrite_any (I : Int) (x : List UInt8) : Calls Try.prog 30 #[.agg #[.int .i64 (D.size : Int), .int .i64 (D.limit : Int), v2, v3, .int .i64 D.fails, .int .i64 (D.calls : Int)], .int .i64 I, .string (bs x)] w fun e w' => ∃ v2' v3',
    e = .returned (.tuple #[.agg #[.int .i64 ((D.sWrite I x).1.size : Int), .int .i64 ((D.sWrite I x).1.limit : Int), v2', v3', .int .i64 (D.sWrite I x).1.fails, .int .i64 ((D.sWrite I x).1.calls : Int)], .int .i64 (D.sWrite I x).2]) ∧ RefP w0 w w' b okR v2' v3' (D.sWrite I x).1 := by
  obtain ⟨k, hk⟩ := r_write hok hc hlo I x
  refine (rubricatorref03_Write.calls k _ _ okR v2 _ okR v3 _ _ _ I _ _ _ _ _ _ _ _ w0 w (by rw [hb]; exact hbel) (by rw [hb]; exact h2) (by rw [hb]; exact h3) hk).mono ?_
  rintro e w' ⟨v2', v3', rfl, k2, k3, k4, k5⟩
  exact ⟨v2', v3', rfl, mk_ref hb h2 h3 hbel k2 k3 k4 k5⟩
theorem rread_any (I : Int) : Calls Try.prog 31 #[.agg #[.int .i64 (D.size : Int), .int .i64 (D.limit : Int), v2, v3, .int .i64 D.fails, .int .i64 (D.calls : Int)], .int .i64 I] w fun e w' => ∃ v2' v3',
    e = .returned (.tuple #[.agg #[.int .i64 ((D.sRead I).1.size : Int), .int .i64 ((D.sRead I).1.limit : Int), v2', v3', .int .i64 (D.sRead I).1.fails, .int .i64 ((D.sRead I).1.calls : Int)], .string (bs (D.sRead I).2.1), .int .i64 (D.sRead I).2.2]) ∧ RefP w0 w w' b okR v2' v3' (D.sRead I).1 := by
  obtain ⟨k, hk⟩ := r_read hok hc hlo I
  refine (rubricatorref03_Read.calls k _ _ okR v2 _ okR v3 _ _ _ I _ _ _ _ _ _ _ _ w0 w (by rw [hb]; exact hbel) (by rw [hb]; exact h2) (by rw [hb]; exact h3) hk).mono ?_
  rintro e w' ⟨v2', v3', rfl, k2, k3, k4, k5⟩
  exact ⟨v2', v3', rfl, mk_ref hb h2 h3 hbel k2 k3 k4 k5⟩
theorem rsync_any : Calls Try.prog 33 #[.agg #[.int .i64 (D.size : Int), .int .i64 (D.limit : Int), v2, v3, .int .i64 D.fails, .int .i64 (D.calls : Int)]] w fun e w' => ∃ v2' v3',
    e = .returned (.tuple #[.agg #[.int .i64 (D.sSync.1.size : Int), .int .i64 (D.sSync.1.limit : Int), v2', v3', .int .i64 D.sSync.1.fails, .int .i64 (D.sSync.1.calls : Int)], .int .i64 D.sSync.2]) ∧ RefP w0 w w' b okR v2' v3' D.sSync.1 := by
  obtain ⟨k, hk⟩ := r_sync hok hc hlo
  refine (rubricatorref03_Sync.calls k _ _ okR v2 _ okR v3 _ _ _ _ _ _ _ _ _ _ w0 w (by rw [hb]; exact hbel) (by rw [hb]; exact h2) (by rw [hb]; exact h3) hk).mono ?_
  rintro e w' ⟨v2', v3', rfl, k2, k3, k4, k5⟩
  exact ⟨v2', v3', rfl, mk_ref hb h2 h3 hbel k2 k3 k4 k5⟩
omit hok hc hlo
theorem rfail_any (a : Int) : Calls Try.prog 34 #[.agg #[.int .i64 (D.size : Int), .int .i64 (D.limit : Int), v2, v3, .int .i64 D.fails, .int .i64 (D.calls : Int)], .int .i64 a] w fun e w' => ∃ v2' v3',
    e = .returned (.agg #[.int .i64 ((D.failed a).size : Int), .int .i64 ((D.failed a).limit : Int), v2', v3', .int .i64 (D.failed a).fails, .int .i64 ((D.failed a).calls : Int)]) ∧ RefP w0 w w' b okR v2' v3' (D.failed a) := by
  refine (rubricatorref03_Fail.calls _ _ okR v2 _ okR v3 _ _ _ a _ _ _ _ _ _ w0 w (by rw [hb]; exact hbel) (by rw [hb]; exact h2) (by rw [hb]; exact h3) (r_fail D a)).mono ?_
  rintro e w' ⟨v2', v3', rfl, k2, k3, k4, k5⟩
  exact ⟨v2', v3', rfl, mk_ref hb h2 h3 hbel k2 k3 k4 k5⟩
include hok hlo
theorem rcrash_ref (ps : List UInt8) (hps : ps.length ≤ 1000000) (hbs : b ≤ w.heap.size) : Calls Try.prog 35 #[.agg #[.int .i64 (D.size : Int), .int .i64 (D.limit : Int), v2, v3, .int .i64 D.fails, .int .i64 (D.calls : Int)], .string (bs ps)] w fun e w' => ∃ v2' v3',
    e = .returned (.agg #[.int .i64 ((D.crash ps).size : Int), .int .i64 ((D.crash ps).limit : Int), v2', v3', .int .i64 (D.crash ps).fails, .int .i64 ((D.crash ps).calls : Int)]) ∧ RefP w0 w w' b okR v2' v3' (D.crash ps) := by
  refine (rcrash_any w b okR D v2 v3 h2 h3 hok hlo hbs ps hps).mono ?_
  rintro e w' ⟨v2', rfl, k2, k3⟩
  exact ⟨v2', _, rfl, hbel.trans (k3.mono hbs), ⟨k3.size, fun i hi _ => k3.block i hi⟩, k2, Kd.R_nil _ _ _ _ _⟩
end
theorem rfrom_ok (w0 w : World) (b : Nat) (hb : w0.heap.size = b) (hbel : Below b w0 w) (hbs : b ≤ w.heap.size) {size limit : Nat} (h : NewOk (size : Int) (limit : Int)) (l : List UInt8) (h1 : l.length % size = 0) (h2 : l.length / size ≤ limit) (hl : l.length ≤ 1000000) :
    Calls Try.prog 29 #[.string (bs l), .int .i64 (size : Int), .int .i64 (limit : Int)] w fun e w' => ∃ v2' v3', e = .returned (.tuple #[.agg #[.int .i64 (size : Int), .int .i64 (limit : Int), v2', v3', .int .i64 (-1), .int .i64 0], .int .i64 0]) ∧ RefP w0 w w' b (fun _ => False) v2' v3' (dFrom size limit l) := by
  obtain ⟨k, hk⟩ := r_from_ok h l h1 h2 hl
  refine (rubricatorref03_From.calls k _ _ _ _ _ _ _ _ _ _ w hk).mono ?_
  rintro e w' ⟨v2', v3', rfl, k2, k3, k4⟩
  refine ⟨v2', v3', rfl, hbel.trans (k4.mono hbs), ⟨k4.size, fun i hi _ => k4.block i hi⟩, ?_, ?_⟩
  · exact Kd.R_mono (Kd.R_lower (base' := b) (Kd.R_bound k2) hbs) (fun k hk => .inr hk.2.1)
  · exact Kd.R_mono (Kd.R_lower (base' := b) (Kd.R_bound k3) hbs) (fun k hk => .inr hk.2.1)
theorem rfrom_no (w : World) {S L : Int} (l : List UInt8) (hl : l.length ≤ 1000000) (h : ¬ (NewOk S L ∧ (l.length : Int) % S = 0 ∧ (l.length : Int) / S ≤ L)) :
    Calls Try.prog 29 #[.string (bs l), .int .i64 S, .int .i64 L] w fun e w' => ∃ v2' v3', e = .returned (.tuple #[.agg #[.int .i64 0, .int .i64 0, v2', v3', .int .i64 0, .int .i64 0], .int .i64 1]) ∧ (∃ A c, v2' = .slice A 0 c) ∧ (∃ A c, v3' = .slice A 0 c) ∧ Below w.heap.size w w' := by
  obtain ⟨k, hk⟩ := r_from_no l hl h
  refine (rubricatorref03_From.calls k _ _ _ _ _ _ _ _ _ _ w hk).mono ?_
  rintro e w' ⟨v2', v3', rfl, k2, k3, k4⟩
  obtain ⟨A2, c2, e2, _⟩ := Kd.R_reads k2
  obtain ⟨A3, c3, e3, _⟩ := Kd.R_reads k3
  exact ⟨v2', v3', rfl, ⟨A2, c2, e2⟩, ⟨A3, c3, e3⟩, k4⟩
theorem full_all (w : World) (size : Nat) (h0 : 0 < size) (h1 : size ≤ 1000000) (B : Nat) (A : Option Addr) (n c : Nat) (b : List UInt8) (hb : Sl w B A n c b) (hB : B ≤ w.heap.size) (hn2 : n ≤ 9223372036854775807) (odd : Bool) :
    Calls Try.prog 22 #[.int .i64 (size : Int), .slice A n c, .bool odd] w fun e w' => ∃ m, e = .returned (.slice (some ⟨w.heap.size, 0, none⟩) m size) ∧ m ≤ size ∧ RowB w' w.heap.size (fullB size b) ∧ Below w.heap.size w w' := by
  rcases Nat.eq_zero_or_pos n with h | h
  · subst h
    obtain rfl : b = [] := List.eq_nil_of_length_eq_zero hb.len
    cases odd with
    | false => exact (full_none w size h0 h1 A c).mono fun e w' hh => ⟨size, hh.1, Nat.le_refl _, hh.2⟩
    | true => exact (full_none_odd w size h0 h1 A c).mono fun e w' hh => ⟨size - 1, hh.1, Nat.sub_le _ _, hh.2⟩
  · cases odd with
    | false => exact (full_is w size h0 h1 B A n c b hb hB h hn2).mono fun e w' hh => ⟨size, hh.1, Nat.le_refl _, hh.2⟩
    | true => exact (full_odd w size h0 h1 B A n c b hb hB h hn2).mono fun e w' hh => ⟨size - 1, hh.1, Nat.sub_le _ _, hh.2⟩
theorem RowB.pre {w : World} {g : Nat} {l : List UInt8} (h : RowB w g l) {m c : Nat} (hm : m ≤ l.length) (hc : m ≤ c) : Sl w w.heap.size (some ⟨g, 0, none⟩) m c (l.take m) :=
  ⟨⟨by rw [bv_length, List.length_take]; omega, fun _ => ⟨_, rfl, h.lt, fun i u hu => by
    rw [add_plain, Nat.zero_add]
    simp only [bv, List.getElem?_map, Option.map_eq_some_iff] at hu
    obtain ⟨q, hq, rfl⟩ := hu
    rw [List.getElem?_take] at hq
    split at hq
    · exact h.cell hq
    · cases hq⟩⟩, by rw [List.length_take]; omega, hc, fun h => by cases h⟩
theorem RBox.all {w : World} {g : Nat} {s l f c s' l' f' c' : Int} {v2 v3 v2' v3' : Value} (h : RBox w g s l v2 v3 f c) :
    RBox ((((((w.setCell ⟨g, 0, none⟩ (.int .i64 s')).setCell ⟨g, 1, none⟩ (.int .i64 l')).setCell ⟨g, 2, none⟩ v2').setCell ⟨g, 3, none⟩ v3').setCell ⟨g, 4, none⟩ (.int .i64 f')).setCell ⟨g, 5, none⟩ (.int .i64 c')) g s' l' v2' v3' f' c' := by
  unfold RBox
  have := blk_set (blk_set (blk_set (blk_set (blk_set (blk_set h 0 (.int .i64 s')) 1 (.int .i64 l')) 2 v2') 3 v3') 4 (.int .i64 f')) 5 (.int .i64 c')
  simpa using this
theorem DSt.set6 {w0 w : World} {b p : Nat} {okD okR : Nat → Prop} {D : Dk} {v2 v3 : Value} (h : DSt w0 w b p okD okR D v2 v3) {g : Nat} (hg : ¬ okD g) (hg2 : ¬ okR g) (hgb : b ≤ g) (a0 a1 a2 a3 a4 a5 : Value) :
    DSt w0 ((((((w.setCell ⟨g, 0, none⟩ a0).setCell ⟨g, 1, none⟩ a1).setCell ⟨g, 2, none⟩ a2).setCell ⟨g, 3, none⟩ a3).setCell ⟨g, 4, none⟩ a4).setCell ⟨g, 5, none⟩ a5) b p okD okR D v2 v3 :=
  (((((h.set hg hg2 hgb 0 a0).set hg hg2 hgb 1 a1).set hg hg2 hgb 2 a2).set hg hg2 hgb 3 a3).set hg hg2 hgb 4 a4).set hg hg2 hgb 5 a5
structure DLoop (w0 w : World) (b p g s j : Nat) : Prop where
  ex : ∃ (okD okR : Nat → Prop) (D : Dk) (v2 v3 : Value), DSt w0 w b p okD okR D v2 v3 ∧ D.size = s ∧ D.calls ≤ j ∧ D.loose.length ≤ j ∧ RBox w g D.size D.limit v2 v3 D.fails D.calls ∧ ¬ okD g ∧ ¬ okR g ∧ b ≤ g
theorem sGrow_le (D : Dk) (N : Int) {s j : Nat} (hs : D.size = s) (hc : D.calls ≤ j) (hl : D.loose.length ≤ j) : (D.sGrow N).1.size = s ∧ (D.sGrow N).1.calls ≤ j + 1 ∧ (D.sGrow N).1.loose.length ≤ j + 1 := by
  unfold Dk.sGrow
  split
  · exact ⟨hs, by show D.calls ≤ _; omega, by show D.loose.length ≤ _; omega⟩
  split
  · exact ⟨hs, by show D.calls ≤ _; omega, by show D.loose.length ≤ _; omega⟩
  split
  · exact ⟨hs, by show D.calls + 1 ≤ _; omega, by show D.loose.length ≤ _; omega⟩
  · exact ⟨hs, by show D.calls + 1 ≤ _; omega, by show D.loose.length ≤ _; omega⟩
theorem sWrite_le (D : Dk) (I : Int) (x : List UInt8) {s j : Nat} (hs : D.size = s) (hc : D.calls ≤ j) (hl : D.loose.length ≤ j) : (D.sWrite I x).1.size = s ∧ (D.sWrite I x).1.calls ≤ j + 1 ∧ (D.sWrite I x).1.loose.length ≤ j + 1 := by
  unfold Dk.sWrite
  split
  · split
    · split
      · exact ⟨hs, by show D.calls + 1 ≤ _; omega, by show D.loose.length ≤ _; omega⟩
      · exact ⟨hs, by show D.calls + 1 ≤ _; omega, by show (D.loose ++ [_]).length ≤ _; rw [List.length_append, List.length_singleton]; omega⟩
    · exact ⟨hs, by show D.calls ≤ _; omega, by show D.loose.length ≤ _; omega⟩
  · exact ⟨hs, by show D.calls ≤ _; omega, by show D.loose.length ≤ _; omega⟩
theorem sRead_le (D : Dk) (I : Int) {s j : Nat} (hs : D.size = s) (hc : D.calls ≤ j) (hl : D.loose.length ≤ j) : (D.sRead I).1.size = s ∧ (D.sRead I).1.calls ≤ j + 1 ∧ (D.sRead I).1.loose.length ≤ j + 1 := by
  unfold Dk.sRead
  split
  · split
    · exact ⟨hs, by show D.calls + 1 ≤ _; omega, by show D.loose.length ≤ _; omega⟩
    · exact ⟨hs, by show D.calls + 1 ≤ _; omega, by show D.loose.length ≤ _; omega⟩
  · exact ⟨hs, by show D.calls ≤ _; omega, by show D.loose.length ≤ _; omega⟩
theorem sSync_le (D : Dk) {s j : Nat} (hs : D.size = s) (hc : D.calls ≤ j) (hl : D.loose.length ≤ j) : D.sSync.1.size = s ∧ D.sSync.1.calls ≤ j + 1 ∧ D.sSync.1.loose.length ≤ j + 1 := by
  unfold Dk.sSync
  split
  · exact ⟨hs, by show D.calls + 1 ≤ _; omega, by show D.loose.length ≤ _; omega⟩
  · exact ⟨hs, by show D.calls + 1 ≤ _; omega, Nat.zero_le _⟩
end Go.Proofs.Ythijobbhpbklmaa
