/- SpaceBack: what is taken, and all given back. -/
import Derived.Test.YthijobbhpbklmaaSAwake
import Derived.Test.YthijobbhpbklmaaSBrB
namespace Go.Proofs.Ythijobbhpbklmaa
open Go.RowKit
set_option linter.unusedVariables false
set_option linter.unusedSimpArgs false

theorem rp_bound {rs : List FRc} {a b : Nat} (h1 : rs.length ≤ a) (h2 : ∀ r ∈ rs, r.2.length ≤ b) : (rpAll rs).length ≤ a * b := by
  have h : ∀ l : List FRc, (∀ r ∈ l, r.2.length ≤ b) → (rpAll l).length ≤ l.length * b := by
    intro l
    induction l with
    | nil => intro _; simp [rpAll]
    | cons r l ih =>
      intro h
      have e1 := h r List.mem_cons_self
      have e2 := ih (fun x hx => h x (List.mem_cons_of_mem _ hx))
      have e3 : rpAll (r :: l) = r.2 ++ rpAll l := rfl
      rw [e3, List.length_append, List.length_cons, Nat.succ_mul]
      omega
  exact Nat.le_trans (h rs h2) (Nat.mul_le_mul_right b h1)
/-- k pages have been taken, U could be at first. -/
structure Bk (U k : Nat) (S : Sp) : Prop where
  fr : S.fr.length = k
  gn : S.gn = []
  lim : S.lim = 60
  lo : k ≤ U → S.us.length = U - k ∧ S.fin = 50
  hi : U ≤ k → S.us = [] ∧ S.fin = 50 + (k - U)
theorem Bk.start (o : Nat) (rs : List FRc) : Bk (sNew 50 60 o rs).us.length 0 (sNew 50 60 o rs) :=
  ⟨rfl, rfl, rfl, fun _ => ⟨rfl, rfl⟩, fun h => ⟨List.eq_nil_of_length_eq_zero (by omega), by simp [sNew]⟩⟩
theorem Bk.step {U k : Nat} {S : Sp} (h : Bk U k S) : (S.take = (S, 0, 21)) ∨ (∃ q, S.take.2 = (q, 0) ∧ S.take.1.fr = S.fr ++ [q] ∧ Bk U (k + 1) S.take.1) := by
  by_cases he : S.us = []
  · have hU : U ≤ k := by
      rcases Nat.le_total U k with c | c
      · exact c
      · have := (h.lo c).1
        rw [he] at this
        simp at this
        omega
    have hf := (h.hi hU).2
    by_cases hl : S.lim ≤ S.fin
    · left
      unfold Sp.take
      rw [if_pos he, if_pos hl]
    · right
      have e : S.take = ({ S with fin := S.fin + 1, fr := S.fr ++ [S.fin] }, S.fin, 0) := by unfold Sp.take; rw [if_pos he, if_neg hl]
      rw [e]
      refine ⟨S.fin, rfl, rfl, ?_, h.gn, h.lim, fun hk => by omega, fun hk => ⟨he, ?_⟩⟩
      · show (S.fr ++ [S.fin]).length = k + 1
        rw [List.length_append, h.fr]; rfl
      · show S.fin + 1 = 50 + (k + 1 - U)
        omega
  · right
    have hlt : k < U := by
      rcases Nat.lt_or_ge k U with c | c
      · exact c
      · exact absurd (h.hi c).1 he
    have e : S.take = ({ S with us := S.us.erase (minS S.us), fr := S.fr ++ [minS S.us] }, minS S.us, 0) := by unfold Sp.take; rw [if_neg he]
    have hl := h.lo (by omega)
    have hm := (minS_mem he).1
    rw [e]
    have hlen : (S.us.erase (minS S.us)).length = U - (k + 1) := by rw [List.length_erase_of_mem hm, hl.1]; omega
    refine ⟨_, rfl, rfl, ?_, h.gn, h.lim, fun hk => ⟨hlen, hl.2⟩, fun hk => ⟨List.eq_nil_of_length_eq_zero (by rw [hlen]; omega), ?_⟩⟩
    · show (S.fr ++ [_]).length = k + 1
      rw [List.length_append, h.fr]; rfl
    · show S.fin = _
      omega
/-- j of them have been given back. -/
def bkSt (S : Sp) (j : Nat) : Sp := { S with us := S.us ++ S.fr.take j, fr := S.fr.drop j }
theorem bk_give {S : Sp} (hw : S.OK) (hg : S.gn = []) {j q : Nat} (hq : S.fr[j]? = some q) : q ∈ (bkSt S j).fr ∧ (bkSt S j).give q = (bkSt S (j + 1), 0) ∧ q ∉ (bkSt S (j + 1)).fr ∧ (bkSt S (j + 1)).give q = (bkSt S (j + 1), 1) := by
  obtain ⟨hj, hq'⟩ := List.getElem?_eq_some_iff.1 hq
  have hmem : q ∈ S.fr := List.mem_of_getElem? hq
  have hdr : S.fr.drop j = q :: S.fr.drop (j + 1) := by rw [List.drop_eq_getElem_cons hj, hq']
  have htk : S.fr.take (j + 1) = S.fr.take j ++ [q] := htk_ hq
  have hnd : (S.fr.drop j).Nodup := hw.fn.sublist (List.drop_sublist _ _)
  have hnd2 : (S.fr.take j ++ S.fr.drop j).Nodup := by rw [List.take_append_drop]; exact hw.fn
  have hb := hw.f1 q hmem
  have m1 : q ∈ (bkSt S j).fr := by show q ∈ S.fr.drop j; rw [hdr]; exact List.mem_cons_self
  have n1 : q ∉ (bkSt S j).us := by
    show q ∉ S.us ++ S.fr.take j
    intro h
    rcases List.mem_append.1 h with h | h
    · exact hw.uf q h hmem
    · exact (List.nodup_append.1 hnd2).2.2 q h q (by rw [hdr]; exact List.mem_cons_self) rfl
  have n2 : q ∉ (bkSt S j).hd := hw.fh q hmem
  have n3 : q ∉ (bkSt S j).gn := by show q ∉ S.gn; rw [hg]; simp
  refine ⟨m1, ?_, ?_, ?_⟩
  · have hno : ¬ (q < 2 ∨ (bkSt S j).fin ≤ q ∨ q ∈ (bkSt S j).us ∨ q ∈ (bkSt S j).hd ∨ q ∈ (bkSt S j).gn) := by
      rintro (h | h | h | h | h)
      · omega
      · have h : S.fin ≤ q := h
        omega
      · exact n1 h
      · exact n2 h
      · exact n3 h
    unfold Sp.give
    rw [if_neg hno, if_pos m1]
    have e1 : (bkSt S j).us ++ [q] = S.us ++ S.fr.take (j + 1) := by
      show (S.us ++ S.fr.take j) ++ [q] = _
      rw [htk, List.append_assoc]
    have e2 : (bkSt S j).fr.erase q = S.fr.drop (j + 1) := by
      show (S.fr.drop j).erase q = _
      rw [hdr, List.erase_cons_head]
    rw [e1, e2]
    rfl
  · show q ∉ S.fr.drop (j + 1)
    rw [hdr] at hnd
    exact (List.nodup_cons.1 hnd).1
  · refine give_no (.inr (.inr (.inl ?_)))
    show q ∈ S.us ++ S.fr.take (j + 1)
    rw [htk]
    simp
theorem bkSt_zero (S : Sp) : bkSt S 0 = S := by unfold bkSt; simp
theorem Bk.fin_ {U k : Nat} {S : Sp} (h : Bk U k S) (hw : S.OK) (hU : U ≤ 300) (hk : k ≤ 20) : ∃ R y : Nat, (bkSt S k).us.length = R ∧ (bkSt S k).fin = y ∧ 50 ≤ y ∧ y ≤ 60 ∧ R ≤ 320 ∧ (if (U : Int) < (U : Int) + (y : Int) - 50 then (U : Int) + (y : Int) - 50 else (U : Int)) = (R : Int) ∧ (if 50 < 50 + (k : Int) - (U : Int) then 50 + (k : Int) - (U : Int) else 50) = (y : Int) := by
  have hul : (bkSt S k).us.length = S.us.length + k := by
    show (S.us ++ S.fr.take k).length = _
    rw [List.length_append, List.take_of_length_le (by rw [h.fr]; exact Nat.le_refl _), h.fr]
  have hlim := h.lim
  have he := hw.e2
  refine ⟨_, _, hul, rfl, ?_⟩
  show 50 ≤ S.fin ∧ S.fin ≤ 60 ∧ _
  have hl := h.lo
  have hh : U ≤ k → S.us.length = 0 ∧ S.fin = 50 + (k - U) := fun c => ⟨by rw [(h.hi c).1]; rfl, (h.hi c).2⟩
  clear hul h hw
  generalize S.us.length = x at hl hh ⊢
  have hb : (bkSt S k).fin = S.fin := rfl
  rw [hb]
  generalize S.fin = y at hl hh he ⊢
  rcases Nat.le_total k U with c | c
  · obtain ⟨c1, c2⟩ := hl c
    refine ⟨by omega, by omega, by omega, ?_, ?_⟩ <;> split <;> omega
  · obtain ⟨c1, c2⟩ := hh c
    refine ⟨by omega, by omega, by omega, ?_, ?_⟩ <;> split <;> omega
/-- The space, and a row of pages that isn't its own. -/
def Tk (w : World) (b p : Nat) (S : Sp) (v : Value) (l : List Nat) : Prop :=
  ∃ ok : Nat → Prop, SpAt w 0 ok p S ∧ w.ownsRow b 73 1 v l.length (l.map encP) ∧ (∀ k, v.ownBlock = some k → ¬ ok k) ∧ ∀ k, k < b → ¬ ok k
theorem Tk.sfr {w w' : World} {b p : Nat} {S' : Sp} {v : Value} {l : List Nat} {ok : Nat → Prop} (hS : SpAt w' 0 ok p S') (hF : SFr ok w w') (ho : w.ownsRow b 73 1 v l.length (l.map encP)) (hn : ∀ k, v.ownBlock = some k → ¬ ok k) (hb : ∀ k, k < b → ¬ ok k) : Tk w' b p S' v l :=
  ⟨ok, hS, own_move_ ho (fun g C hv hC => hF.2.2.2.2 g (blk_lt hC) (hn g hv)), hn, hb⟩
theorem Tk.below {w w' : World} {b p : Nat} {S : Sp} {v : Value} {l : List Nat} (h : Tk w b p S v l) (hb : Below w.heap.size w w') : Tk w' b p S v l := by
  obtain ⟨ok, hS, ho, hn, hk⟩ := h
  exact ⟨ok, hS.below hb, own_move_ ho (fun g C hv hC => hb.block g (blk_lt hC)), hn, hk⟩
theorem Tk.app {w w8 : World} {b p : Nat} {S : Sp} {v v8 : Value} {l : List Nat} {q : Nat} (h : Tk w b p S v l) (hown8 : w8.ownsRow b 73 1 v8 (l.length + 1) (l.map encP ++ [encP q])) (hg8 : w.grownBy w8 v.ownBlock) (hat8 : v8.ownBlock = v.ownBlock ∨ v8.ownBlock = some w.heap.size) : Tk w8 b p S v8 (l ++ [q]) := by
  obtain ⟨ok, hS, ho, hn, hk⟩ := h
  refine ⟨fun k => ok k ∧ v8.ownBlock ≠ some k, hS.move (fun k hlt hok => ⟨hg8.block k hlt (fun e => hn k e.symm hok), hok, fun e => ?_⟩), by simpa using hown8, fun k hv h => h.2 hv, fun k hlt h => hk k hlt h.1⟩
  rcases hat8 with e8 | e8
  · rw [e8] at e
    exact hn k e hok
  · rw [e8] at e
    injection e with e
    omega
theorem Tk.at_ {w : World} {b p : Nat} {S : Sp} {v : Value} {l : List Nat} (h : Tk w b p S v l) : ∃ A c, v = .slice A l.length c ∧ ∀ (j q : Nat), l[j]? = some q → ∃ ad, A = some ad ∧ w.cell? (ad.add j) = some (.int .u32 (q : Int)) := by
  obtain ⟨ok, hS, ho, hn, hk⟩ := h
  obtain ⟨A, c, rfl⟩ := own_slice ho
  refine ⟨A, c, rfl, fun j q hq => ?_⟩
  have hr := Reads.of_own ho
  have hl := (List.getElem?_eq_some_iff.1 hq).1
  obtain ⟨ad, u, e, _, hu, hc⟩ := hr.at_ (k := j) hl
  rw [List.getElem?_map, hq] at hu
  injection hu with hu
  subst hu
  exact ⟨ad, e, hc⟩
theorem info_pg2 : (Try.prog.info? 73).map (fun i => (i.zero, i.size, i.bytes)) = some (some (.int .u32 0), 1, 4) := by kernel_rfl
theorem reads_one (w : World) (a : Value) (t : TypeId) : Reads (w.alloc (.cells #[a] t)) (w.heap.size + 1) 1 (some ⟨w.heap.size, 0, none⟩) 1 [a] := by
  have hb : (w.alloc (.cells #[a] t)).heap[w.heap.size]? = some (.cells #[a] t (0, 0)) := heap_alloc_new w _
  refine ⟨rfl, fun _ => ⟨_, rfl, by simp, fun j u hu => ?_⟩⟩
  rw [Addr.add_lit, Nat.zero_add, blk_cell hb]
  simpa using hu
set_option maxRecDepth 100000 in
set_option maxHeartbeats 4000000 in
theorem spaceBack_law (w : World) (A : Option Addr) (n c : Nat) (rs : List FRc) (h : Recs w w.heap.size A n rs) (hc : Caps w A n c rs) (hok : FROk rs) (hn : n ≤ 4398046511103) (hrl : ∀ r ∈ rs, r.2.length ≤ 35184372088831) (a m : Nat) (ha : a < 18446744073709551616) (hm : m < 256) :
    Calls Try.prog 12 #[.slice A n c, .int .u64 (a : Int), .int .u8 (m : Int)] w fun e w' => e = .returned (.bool true) ∧ Below w.heap.size w w' := by
  have HREC := Lib.hid h
  have HCAP := Lib.hid hc
  have haw := awake08 (sorts_at pdq12) (Nat.le_refl _) (by omega) w
  clear h hc
  go_enter Try.func12, Try.ntmps12
  go_wp2_with fail
  refine haw.mono ?_
  rintro e w1 ⟨rfl, hb1⟩
  clear haw
  have hR1 := HREC.out.below hb1
  have hC1 : Caps w1 A n c rs := HCAP.out.keep HREC.out (fun p hp => hb1.cell hp)
  have hz1 := hb1.size
  have hfew := few_any w1 w.heap.size A n c rs hR1 hC1
  clear hR1 hC1
  go_wp2_with fail
  refine hfew.mono ?_
  rintro e w2 ⟨f, rfl, HF, hb2⟩
  clear hfew
  have hbb2 := hb1.trans (hb2.mono hz1)
  have hz2 := hb2.size
  have hR2 := HREC.out.below hbb2
  have hC2 : Caps w2 A n c rs := HCAP.out.keep HREC.out (fun p hp => hbb2.cell hp)
  have hrec := records_any w2 A n c rs (hR2.more (by omega)) hC2 hn hrl
  clear hR2 hC2 hb1 hb2
  go_wp2_with fail
  refine hrec.mono ?_
  rintro e w3 ⟨A1, c1, A2, c2, rfl, hK1, hk1, _, _, hb3⟩
  clear hrec
  have hbb3 := hbb2.trans (hb3.mono (by omega))
  have hz3 := hb3.size
  clear hbb2 hb3
  have hR3 := recs_Rec (c := c1) hK1
  have HR3 := Lib.hid hR3
  have HK1 := Lib.hid hK1
  have hlen : rs.length = n := hR3.1
  clear hR3 hK1
  cases f with
  | false =>
    go_wp2_with fail
    go_ret
    exact ⟨rfl, hbb3⟩
  | true =>
    obtain ⟨hf1, hf2⟩ := HF.out rfl
    have htot := rp_bound hf1 hf2
    have hn10 : n ≤ 10 := by omega
    have hrt := spright_any w3 w3.heap.size A1 n c1 rs HR3.out (Nat.le_refl _) hok (by omega) (fun r hr => by have := hf2 r hr; omega) (by omega) 50
    go_wp2_with fail
    refine hrt.mono ?_
    rintro e w4 ⟨b4, rfl, hbr, hb4⟩
    clear hrt
    have hbb4 := hbb3.trans (hb4.mono (by omega))
    have hz4 := hb4.size
    cases b4 with
    | false =>
      go_wp2_with fail
      go_ret
      exact ⟨rfl, hbb4⟩
    | true =>
      have hrg := hbr.1 rfl
      clear hbr
      have hne : ∀ r ∈ rs, r.2 ≠ [] := fun r hr => by
        obtain ⟨i, hi⟩ := List.getElem?_of_mem hr
        exact (hrg i r hi).1
      have hpl : ∀ r ∈ rs, r.2.length ≤ 1000000000 := fun r hr => by have := hf2 r hr; omega
      have hn1 : Calls Try.prog 40 #[.int .u32 ((50 : Nat) : Int), .int .u32 ((60 : Nat) : Int), .slice A1 n c1, .int .u64 (a : Int)] w4 fun x w' => ∃ p, x = .returned (.tuple #[.pointer (some ⟨p, 0, none⟩), .int .i64 0]) ∧ w4.heap.size ≤ p ∧ SpAt w' 0 (fun k => w4.heap.size ≤ k) p (sNew 50 60 a rs) ∧ Below w4.heap.size w4 w' :=
        snew_any w4 w3.heap.size A1 n c1 rs (HR3.out.below hb4) (fun W' hW' => hcp_Rec HK1.out hne W' (hb4.trans (hW'.mono (Nat.le_refl _)))) hb4.size hok (by omega) hpl (by omega) 50 60 a ha ⟨by omega, by omega, by omega, hrg⟩ 0 _ (Nat.zero_le _) (fun k hk => hk)
      have H4 := Lib.hid hb4
      clear hb4 hbb3
      go_wp2_with fail
      refine hn1.mono ?_
      rintro e w5 ⟨p, rfl, hp, hS, hb5⟩
      clear hn1
      have hz5 := hb5.size
      have hbb5 := hbb4.trans (hb5.mono (by omega))
      have hus := susable_any hS
      have hbk := Bk.start a rs
      obtain ⟨U, hU⟩ : ∃ U, (sNew 50 60 a rs).us.length = U := ⟨_, rfl⟩
      have hUb : U ≤ 300 := by
        rw [← hU]
        show (rpAll (wOld a rs)).length ≤ 300
        refine Nat.le_trans (rp_bound (a := 10) (b := 30) (Nat.le_trans (List.length_filter_le _ _) (by omega)) (fun x hx => hf2 x (List.mem_filter.1 hx).1)) (by omega)
      rw [hU] at hbk hus
      have hT0 : Tk w5 w.heap.size p (sNew 50 60 a rs) (.slice none 0 0) [] := ⟨_, hS, World.ownsRow_nil _ _ _ _, by intro k hk; simp [Value.ownBlock] at hk, fun k hk => by show ¬ w4.heap.size ≤ k; omega⟩
      have hfr0 : (sNew 50 60 a rs).fr = [] := rfl
      generalize sNew 50 60 a rs = S0 at hbk hT0 hfr0
      have HB5 := Lib.hid hbb5
      clear hS hbb4 hbb5 hb5 hU
      go_wp2_with fail
      refine hus.mono ?_
      rintro e w5' ⟨rfl, rfl⟩
      clear hus
      have hmq : ((m : Int) % 30) % 256 = (m : Int) % 30 := by omega
      obtain ⟨i0, ig0, iz0, iz1, iz2⟩ := info_parts info_pg2
      obtain ⟨M, hM⟩ : ∃ M, m % 20 = M := ⟨_, rfl⟩
      have hM20 : M < 20 := by omega
      have hMi : (m : Int) % 20 = (M : Int) := by omega
      go_wp2_with fail
      go_loopw [14, 15] (fun t i wr => ∃ (k : Nat) (S : Sp), k ≤ M ∧ i = .int .i64 (k : Int) ∧ Hid (Bk U k S) ∧ Hid (Tk wr w.heap.size p S t S.fr) ∧ Hid (RowKit.Below w.heap.size w wr)) (fun _ i _ => M - (intOf i).toNat)
      case atStart => exact ⟨0, S0, Nat.zero_le _, rfl, Lib.hid hbk, Lib.hid (by rw [hfr0]; exact hT0), HB5⟩
      case round =>
        obtain ⟨k, S, hk, rfl, HBK, HT, HB⟩ := hrel
        clear hT0 hbk HB5
        obtain ⟨wo, hwo⟩ : ∃ wo, wo = wr := ⟨_, rfl⟩
        subst hwo
        by_cases hlt : k < M
        · have d1 : decide ((k : Int) < (M : Int)) = true := decide_eq_true (by omega)
          obtain ⟨ok, hS, hrow, hno, hlo⟩ := HT.out
          have hW := hS.wf
          have htake := stake_any hS
          have hzo := HB.out.size
          rcases HBK.out.step with hst | ⟨q, hst, hfr, hbk2⟩
          · unfold STakeP at htake
            rw [hst] at htake
            go_wp2_with fail
            refine htake.mono ?_
            rintro e w6 ⟨rfl, hS6, hF6⟩
            clear htake
            have hT6 := Tk.sfr hS6 hF6 hrow hno hlo
            have hB6 := HB.out.trans (hF6.below hzo hlo)
            have hlen : S.fr.length = k := HBK.out.fr
            obtain ⟨A6, c6, rfl, _⟩ := hT6.at_
            rw [hlen] at hT6 ⊢
            have hgn : S.gn = [] := HBK.out.gn
            have hWF : S.OK := by obtain ⟨_, hS', _⟩ := hT6; exact hS'.wf
            have HT6 := Lib.hid hT6
            have HB6 := Lib.hid hB6
            clear hT6 hB6
            go_wp2_with fail
            clear hMi hM hmq
            go_loopw [18] (fun i wr => ∃ j : Nat, j ≤ k ∧ i = .int .i64 (j : Int) ∧ Hid (Tk wr w.heap.size p (bkSt S j) (.slice A6 k c6) S.fr) ∧ Hid (RowKit.Below w.heap.size w wr)) (fun i _ => k - (intOf i).toNat)
            case atStart => exact ⟨0, Nat.zero_le _, rfl, Lib.hid (by rw [bkSt_zero]; exact HT6.out), HB6⟩
            case round =>
              obtain ⟨j, hj, rfl, HTj, HBj⟩ := hrel
              clear HT6 HB6
              obtain ⟨wj, hwj⟩ : ∃ wj, wj = wr := ⟨_, rfl⟩
              subst hwj
              by_cases hlt2 : j < k
              · have d2 : decide ((j : Int) < (k : Int)) = true := decide_eq_true (by omega)
                obtain ⟨q, hq⟩ : ∃ q, S.fr[j]? = some q := ⟨_, List.getElem?_eq_getElem (by omega)⟩
                obtain ⟨g1, g2, g3, g4⟩ := bk_give hWF hgn hq
                obtain ⟨hq2, hqf⟩ := hWF.f1 q (List.mem_of_getElem? hq)
                have hq32 : q < 4294967296 := by have := hWF.e2; have := hWF.e3; omega
                have hat : ∀ (W : World) (S' : Sp), Tk W w.heap.size p S' (.slice A6 k c6) S.fr → ∃ ad, A6 = some ad ∧ W.cell? (ad.add j) = some (.int .u32 (q : Int)) := fun W S' hT => by
                  obtain ⟨A', c', e, hcell⟩ := hT.at_
                  injection e with e1 e2 e3
                  subst e1
                  exact hcell j q hq
                obtain ⟨ad, rfl, k0⟩ := hat _ _ HTj.out
                have HAT := Lib.hid hat
                clear hat
                obtain ⟨ok, hS, hrow, hno, hlo⟩ := HTj.out
                have hzj := HBj.out.size
                have hf1 := sfresh_any hS q hq32
                rw [decide_eq_true g1] at hf1
                go_wp2_with fail
                refine hf1.mono ?_
                rintro e x1 ⟨rfl, hx1⟩
                clear hf1
                have hT1 := HTj.out.below hx1
                have hB1 := HBj.out.trans (hx1.mono hzj)
                obtain ⟨_, e, k1⟩ := HAT.out _ _ hT1
                cases e
                obtain ⟨ok1, hS1, hrow1, hno1, hlo1⟩ := hT1
                have hz1 := hB1.size
                have hgv := sgive_any hS1 q hq32
                unfold SGiveP at hgv
                rw [g2] at hgv
                clear hS hrow hno hlo hS1 k0
                go_wp2_with fail
                refine hgv.mono ?_
                rintro e x2 ⟨rfl, hS2, hF2⟩
                clear hgv
                have hT2 := Tk.sfr hS2 hF2 hrow1 hno1 hlo1
                have hB2 := hB1.trans (hF2.below hz1 hlo1)
                obtain ⟨_, e, k2⟩ := HAT.out _ _ hT2
                cases e
                have hf2' := sfresh_any hS2 q hq32
                rw [decide_eq_false g3] at hf2'
                have hz2 := hB2.size
                clear hF2 k1 hB1
                go_wp2_with fail
                refine hf2'.mono ?_
                rintro e x3 ⟨rfl, hx3⟩
                clear hf2' hS2
                have hT3 := hT2.below hx3
                have hB3 := hB2.trans (hx3.mono hz2)
                obtain ⟨_, e, k3⟩ := HAT.out _ _ hT3
                cases e
                obtain ⟨ok3, hS3, hrow3, hno3, hlo3⟩ := hT3
                have hz3' := hB3.size
                have hgv := sgive_any hS3 q hq32
                unfold SGiveP at hgv
                rw [g4] at hgv
                clear hS3 k2 hT2 hB2 hx3
                go_wp2_with fail
                refine hgv.mono ?_
                rintro e x4 ⟨rfl, hS4, hF4⟩
                clear hgv
                have HT4 := Lib.hid (Tk.sfr hS4 hF4 hrow3 hno3 hlo3)
                have HB4 := Lib.hid (hB3.trans (hF4.below hz3' hlo3))
                clear hS4 hF4 hB3 k3
                go_wp2_with fail
                first
                  | exact ⟨⟨j + 1, by omega, by go_num, HT4, HB4⟩, by simp [intOf]; omega⟩
                  | (go_roundw
                     case rel => exact ⟨j + 1, by omega, by go_num, HT4, HB4⟩
                     case measure => simp [intOf]; omega)
              · obtain rfl : j = k := by omega
                have d2 : decide ((j : Int) < (j : Int)) = false := decide_eq_false (by omega)
                obtain ⟨ok, hS, hrow, hno, hlo⟩ := HTj.out
                have hu := susable_any hS
                have he := send_any hS
                obtain ⟨R, y, hR, hy, hy50, hyb, hRb, hm1, hm2⟩ := HBK.out.fin_ hWF hUb (by omega)
                rw [hR] at hu
                rw [hy] at he
                have hB := Lib.hid HBj.out
                clear hS hrow hno hR hy hlo
                go_wp2_with fail
                refine hu.mono ?_
                rintro e x1 ⟨rfl, rfl⟩
                clear hu
                go_wp2_with fail
                refine he.mono ?_
                rintro e x1 ⟨rfl, rfl⟩
                go_wp2_with fail
                refine he.mono ?_
                rintro e x1 ⟨rfl, rfl⟩
                go_wp2_with fail
                go_ret
                have hq : ((y : Int) == max 50 (50 + (j : Int) - (U : Int))) = true := by
                  rw [beq_iff_eq]
                  split at hm2 <;> omega
                exact ⟨congrArg (fun b => Ending.returned (.bool b)) hq, hB.out⟩
          · have hq32 : q < 4294967296 := by
              have := hbk2
              have h1 := hW.take.f1 q (by rw [hfr]; simp)
              have h2 := hW.take.e2
              have h3 := hW.take.e3
              omega
            unfold STakeP at htake
            rw [hst] at htake
            have HFR := Lib.hid hfr
            have HBK2 := Lib.hid hbk2
            generalize S.take.1 = S2 at htake HFR HBK2
            go_wp2_with fail
            refine htake.mono ?_
            rintro e w6 ⟨rfl, hS6, hF6⟩
            clear htake hfr hbk2 hst
            have hT6 := Tk.sfr hS6 hF6 hrow hno hlo
            have hB6 := HB.out.trans (hF6.below hzo hlo)
            have hlen : S.fr.length = k := HBK.out.fr
            obtain ⟨A6, c6, rfl, _⟩ := hT6.at_
            rw [hlen] at hT6 ⊢
            have hT7 := hT6.below ((Below.refl _ w6).alloc (Nat.le_refl _) (.cells #[.int .u32 (q : Int)] 73))
            have hB7 := hB6.alloc hB6.size (.cells #[.int .u32 (q : Int)] 73)
            obtain ⟨_, _, hrow7, _⟩ := hT7
            have hrd := reads_one w6 (.int .u32 (q : Int)) 73
            have hz7 : (w6.alloc (.cells #[.int .u32 (q : Int)] 73)).heap.size = w6.heap.size + 1 := by simp
            have HT7 := Lib.hid (hT6.below ((Below.refl _ w6).alloc (Nat.le_refl _) (.cells #[.int .u32 (q : Int)] 73)))
            have HB7 := Lib.hid hB7
            have hzw := hB6.size
            rw [hlen] at hrow7
            clear hT6 hB6 hB7 hS6 hF6 hS hrow
            go_wp2_with (first | (at_builtin; refine wpList_append_any _ rfl (.tmp 60) (.tmp 62) _ rfl w.heap.size 73 i0 _ 1 4 Try.underlying99 ig0 iz0 iz1 iz2 rfl (by omega) (.slice A6 k c6) k _ (by rfl) hrow7 (w6.heap.size + 1) (some ⟨w6.heap.size, 0, none⟩) 1 1 [.int .u32 (q : Int)] (by rfl) hrd (by simp [Value.oneCell']) (by unfold maxLen; omega) (by omega) (by omega) ?_))
            intro v8 w8 hown8 hg8 hat8
            have hnb : ∀ x, (Value.slice A6 k c6).ownBlock = some x → w.heap.size ≤ x := fun x hx => (hrow7.lt x hx).1
            have hT8 : Tk w8 w.heap.size p S2 v8 (S.fr ++ [q]) := HT7.out.app (by rw [hlen]; exact hown8) hg8 (by rw [hz7]; exact hat8)
            have hB8 : RowKit.Below w.heap.size w w8 := HB7.out.grown hg8 (by omega) (fun x hx => by first | exact hnb x hx | exact hnb x hx.symm)
            rw [← HFR.out] at hT8
            have HT8 := Lib.hid hT8
            have HB8 := Lib.hid hB8
            clear hT8 hB8 hown8 hg8 hat8 hrow7 hrd hnb
            go_wp2_with fail
            exact ⟨⟨k + 1, S2, by omega, by go_num, HBK2, HT8, HB8⟩, by simp [intOf]; omega⟩
        · obtain rfl : k = M := by omega
          have d1 : decide ((k : Int) < (k : Int)) = false := decide_eq_false (by omega)
          have hT6 := HT.out
          have hB6 := HB.out
          obtain ⟨w6, hw6⟩ : ∃ w6, w6 = wo := ⟨_, rfl⟩
          subst hw6
          have hlen : S.fr.length = k := HBK.out.fr
          obtain ⟨A6, c6, rfl, _⟩ := hT6.at_
          rw [hlen] at hT6 ⊢
          have hgn : S.gn = [] := HBK.out.gn
          have hWF : S.OK := by obtain ⟨_, hS', _⟩ := hT6; exact hS'.wf
          have HT6 := Lib.hid hT6
          have HB6 := Lib.hid hB6
          clear hT6 hB6
          go_wp2_with fail
          clear hMi hM hmq
          go_loopw [18] (fun i wr => ∃ j : Nat, j ≤ k ∧ i = .int .i64 (j : Int) ∧ Hid (Tk wr w.heap.size p (bkSt S j) (.slice A6 k c6) S.fr) ∧ Hid (RowKit.Below w.heap.size w wr)) (fun i _ => k - (intOf i).toNat)
          case atStart => exact ⟨0, Nat.zero_le _, rfl, Lib.hid (by rw [bkSt_zero]; exact HT6.out), HB6⟩
          case round =>
            obtain ⟨j, hj, rfl, HTj, HBj⟩ := hrel
            clear HT6 HB6
            obtain ⟨wj, hwj⟩ : ∃ wj, wj = wr := ⟨_, rfl⟩
            subst hwj
            by_cases hlt2 : j < k
            · have d2 : decide ((j : Int) < (k : Int)) = true := decide_eq_true (by omega)
              obtain ⟨q, hq⟩ : ∃ q, S.fr[j]? = some q := ⟨_, List.getElem?_eq_getElem (by omega)⟩
              obtain ⟨g1, g2, g3, g4⟩ := bk_give hWF hgn hq
              obtain ⟨hq2, hqf⟩ := hWF.f1 q (List.mem_of_getElem? hq)
              have hq32 : q < 4294967296 := by have := hWF.e2; have := hWF.e3; omega
              have hat : ∀ (W : World) (S' : Sp), Tk W w.heap.size p S' (.slice A6 k c6) S.fr → ∃ ad, A6 = some ad ∧ W.cell? (ad.add j) = some (.int .u32 (q : Int)) := fun W S' hT => by
                obtain ⟨A', c', e, hcell⟩ := hT.at_
                injection e with e1 e2 e3
                subst e1
                exact hcell j q hq
              obtain ⟨ad, rfl, k0⟩ := hat _ _ HTj.out
              have HAT := Lib.hid hat
              clear hat
              obtain ⟨ok, hS, hrow, hno, hlo⟩ := HTj.out
              have hzj := HBj.out.size
              have hf1 := sfresh_any hS q hq32
              rw [decide_eq_true g1] at hf1
              go_wp2_with fail
              refine hf1.mono ?_
              rintro e x1 ⟨rfl, hx1⟩
              clear hf1
              have hT1 := HTj.out.below hx1
              have hB1 := HBj.out.trans (hx1.mono hzj)
              obtain ⟨_, e, k1⟩ := HAT.out _ _ hT1
              cases e
              obtain ⟨ok1, hS1, hrow1, hno1, hlo1⟩ := hT1
              have hz1 := hB1.size
              have hgv := sgive_any hS1 q hq32
              unfold SGiveP at hgv
              rw [g2] at hgv
              clear hS hrow hno hlo hS1 k0
              go_wp2_with fail
              refine hgv.mono ?_
              rintro e x2 ⟨rfl, hS2, hF2⟩
              clear hgv
              have hT2 := Tk.sfr hS2 hF2 hrow1 hno1 hlo1
              have hB2 := hB1.trans (hF2.below hz1 hlo1)
              obtain ⟨_, e, k2⟩ := HAT.out _ _ hT2
              cases e
              have hf2' := sfresh_any hS2 q hq32
              rw [decide_eq_false g3] at hf2'
              have hz2 := hB2.size
              clear hF2 k1 hB1
              go_wp2_with fail
              refine hf2'.mono ?_
              rintro e x3 ⟨rfl, hx3⟩
              clear hf2' hS2
              have hT3 := hT2.below hx3
              have hB3 := hB2.trans (hx3.mono hz2)
              obtain ⟨_, e, k3⟩ := HAT.out _ _ hT3
              cases e
              obtain ⟨ok3, hS3, hrow3, hno3, hlo3⟩ := hT3
              have hz3' := hB3.size
              have hgv := sgive_any hS3 q hq32
              unfold SGiveP at hgv
              rw [g4] at hgv
              clear hS3 k2 hT2 hB2 hx3
              go_wp2_with fail
              refine hgv.mono ?_
              rintro e x4 ⟨rfl, hS4, hF4⟩
              clear hgv
              have HT4 := Lib.hid (Tk.sfr hS4 hF4 hrow3 hno3 hlo3)
              have HB4 := Lib.hid (hB3.trans (hF4.below hz3' hlo3))
              clear hS4 hF4 hB3 k3
              go_wp2_with fail
              first
                | exact ⟨⟨j + 1, by omega, by go_num, HT4, HB4⟩, by simp [intOf]; omega⟩
                | (go_roundw
                   case rel => exact ⟨j + 1, by omega, by go_num, HT4, HB4⟩
                   case measure => simp [intOf]; omega)
            · obtain rfl : j = k := by omega
              have d2 : decide ((j : Int) < (j : Int)) = false := decide_eq_false (by omega)
              obtain ⟨ok, hS, hrow, hno, hlo⟩ := HTj.out
              have hu := susable_any hS
              have he := send_any hS
              obtain ⟨R, y, hR, hy, hy50, hyb, hRb, hm1, hm2⟩ := HBK.out.fin_ hWF hUb (by omega)
              rw [hR] at hu
              rw [hy] at he
              have hB := Lib.hid HBj.out
              clear hS hrow hno hR hy hlo
              go_wp2_with fail
              refine hu.mono ?_
              rintro e x1 ⟨rfl, rfl⟩
              clear hu
              go_wp2_with fail
              refine he.mono ?_
              rintro e x1 ⟨rfl, rfl⟩
              go_wp2_with fail
              refine he.mono ?_
              rintro e x1 ⟨rfl, rfl⟩
              go_wp2_with fail
              go_ret
              have hq : ((y : Int) == max 50 (50 + (j : Int) - (U : Int))) = true := by
                rw [beq_iff_eq]
                split at hm2 <;> omega
              exact ⟨congrArg (fun b => Ending.returned (.bool b)) hq, hB.out⟩
end Go.Proofs.Ythijobbhpbklmaa
