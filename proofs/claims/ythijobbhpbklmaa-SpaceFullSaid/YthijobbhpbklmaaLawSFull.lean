/- SpaceFull: as many pages are taken as are usable, and up to the limit. -/
import Derived.Test.YthijobbhpbklmaaSFullP
import Derived.Deep.DeepCutAuto
import Derived.Test.YthijobbhpbklmaaSRaws
namespace Go.Proofs.Ythijobbhpbklmaa
open Go.RowKit
set_option linter.unusedVariables false
set_option linter.unusedSimpArgs false

theorem fl_of_row {w : World} {a : Option Addr} {len cap : Nat} {zs : List Int} (h : (a = none ∧ len = 0 ∧ cap = 0 ∧ zs = []) ∨ ∃ x, a = some x ∧ len ≤ cap ∧ cap ≤ maxLen ∧ zs.length = cap ∧ (∀ i, i < zs.length → w.cell? (x.add i) = some (.int .u32 (zs.getD i 0))) ∧ ∀ n ∈ zs, (Lit.int .u32 n).wf = true) :
    ∃ fl : List Nat, Reads w w.heap.size 1 a len (Pgs fl) ∧ (∀ x ∈ fl, x < 4294967296) ∧ len ≤ 9223372036854775807 := by
  rcases h with ⟨rfl, rfl, _, _⟩ | ⟨x, rfl, hl, hm, hz, hc, hw⟩
  · exact ⟨[], ⟨rfl, fun h => absurd h (by omega)⟩, by simp, by omega⟩
  · obtain ⟨pl, h1, h2, h3⟩ := pgs_of_row (len := len) (by omega) hc hw len (Nat.le_refl _)
    exact ⟨pl, h3, h2, by unfold maxLen at hm; omega⟩
/-- The space, and a row of pages that isn't its own. -/
def Tk (w : World) (b p : Nat) (S : Sp) (v : Value) (l : List Nat) : Prop :=
  ∃ ok : Nat → Prop, SpAt w 0 ok p S ∧ w.ownsRow b 73 1 v l.length (l.map encP) ∧ (∀ k, v.ownBlock = some k → ¬ ok k) ∧ ∀ k, k < b → ¬ ok k
theorem Tk.sfr {w w' : World} {b p : Nat} {S' : Sp} {v : Value} {l : List Nat} {ok : Nat → Prop} (hS : SpAt w' 0 ok p S') (hF : SFr ok w w') (ho : w.ownsRow b 73 1 v l.length (l.map encP)) (hn : ∀ k, v.ownBlock = some k → ¬ ok k) (hb : ∀ k, k < b → ¬ ok k) : Tk w' b p S' v l :=
  ⟨ok, hS, own_move_ ho (fun g C hv hC => hF.2.2.2.2 g (blk_lt hC) (hn g hv)), hn, hb⟩
theorem own_at_ {w : World} {b n c : Nat} {A : Option Addr} {l : List Nat} (ho : w.ownsRow b 73 1 (.slice A n c) n (l.map encP)) {j q : Nat} (hq : l[j]? = some q) : ∃ ad, A = some ad ∧ w.cell? (ad.add j) = some (.int .u32 (q : Int)) := by
  have hr := Reads.of_own ho
  have hl := (List.getElem?_eq_some_iff.1 hq).1
  have hn : l.length = n := by have := ho.1; simpa using this
  obtain ⟨ad, u, e, _, hu, hc⟩ := hr.at_ (k := j) (by omega)
  rw [List.getElem?_map, hq] at hu
  injection hu with hu
  subst hu
  exact ⟨ad, e, hc⟩
theorem info_pg2 : (Try.prog.info? 73).map (fun i => (i.zero, i.size, i.bytes)) = some (some (.int .u32 0), 1, 4) := by kernel_rfl
theorem reads_one (w : World) (a : Value) (t : TypeId) : Reads (w.alloc (.cells #[a] t)) (w.heap.size + 1) 1 (some ⟨w.heap.size, 0, none⟩) 1 [a] := by
  have hb : (w.alloc (.cells #[a] t)).heap[w.heap.size]? = some (.cells #[a] t (0, 0)) := heap_alloc_new w _
  refine ⟨rfl, fun _ => ⟨_, rfl, by simp, fun j u hu => ?_⟩⟩
  rw [Addr.add_lit, Nat.zero_add, blk_cell hb]
  simpa using hu
/-- What New takes: one record of the pages, or none. -/
def Rec1 (w : World) (v : Value) (rs : List FRc) : Prop := ∃ A n c, v = .slice A n c ∧ Recs w w.heap.size A n rs ∧ ∀ (W : World), RowKit.Below w.heap.size w W → ∀ i r ad Ap np cp, rs[i]? = some r → A = some ad → RcAt W w.heap.size (ad.add (i * 2)) r Ap np cp → np ≤ cp ∧ (Ap = none → cp = 0)
theorem Rec1.nil (w : World) : Rec1 w (.slice none 0 0) [] := ⟨none, 0, 0, rfl, ⟨rfl, by intro i r hi; simp at hi⟩, by intro W _ i r ad Ap np cp hi; simp at hi⟩
theorem Rec1.row {w : World} {base : Nat} {ok : Nat → Prop} {v : Value} {rs : List FRc} (h : WRow w base ok v rs) : Rec1 w v rs := by
  have hh := h
  obtain ⟨A, c, cs, rfl, _⟩ := h.split
  refine ⟨A, _, c, rfl, ⟨rfl, fun i r hi => ?_⟩, fun W hW i r ad Ap np cp hi hA hR => ?_⟩
  · obtain ⟨ad, c', Ap, np, cp, e, hR, _⟩ := hh.rec_ hi
    injection e with e1 e2 e3
    exact ⟨ad, Ap, np, cp, e1, hR⟩
  · obtain ⟨ad', c', Ap', np', cp', e, hR', q1, q2⟩ := hh.rec_ hi
    injection e with e1 e2 e3
    rw [e1] at hA
    injection hA with hA
    subst hA
    have hc := (hR'.below hW).2.2.1
    rw [hR.2.2.1] at hc
    injection hc with hc
    injection hc with z1 z2 z3
    subst z1 z2 z3
    exact ⟨q1, q2⟩
set_option maxRecDepth 100000 in
set_option maxHeartbeats 4000000 in
theorem spaceFull_law (w : World) (E M : Nat) (hE : E < 256) (hM : M < 256) (A : Option Addr) (n c : Nat) (fl : List Nat) (hr : Reads w w.heap.size 1 A n (Pgs fl)) (hn : n ≤ 9223372036854775807) (hfb : ∀ x ∈ fl, x < 4294967296) :
    Calls Try.prog 11 #[.int .u8 (E : Int), .int .u8 (M : Int), .slice A n c] w fun e w' => e = .returned (.bool true) ∧ Below w.heap.size w w' := by
  have HR := Lib.hid hr
  have hfl : fl.length = n := by have := hr.1; rw [Pgs_length] at this; omega
  have haw := awake08 (sorts_at pdq12) (Nat.le_refl _) (by omega) w
  obtain ⟨e, he⟩ : ∃ e, E % 30 = e := ⟨_, rfl⟩
  obtain ⟨m, hm⟩ : ∃ m, M % 30 = m := ⟨_, rfl⟩
  have he30 : e < 30 := by omega
  have hm30 : m < 30 := by omega
  have hei : (E : Int) % 30 = (e : Int) := by omega
  have hmi : (M : Int) % 30 = (m : Int) := by omega
  clear hr
  obtain ⟨i0, ig0, iz0, iz1, iz2⟩ := info_parts info_pg2
  obtain ⟨ir, ri0, rz0, rz1, rz2⟩ := info_parts info_rec
  go_enter Try.func11, Try.ntmps11
  go_wp2_with fail
  refine haw.mono ?_
  rintro x w1 ⟨rfl, hb1⟩
  clear haw
  have HB1 := Lib.hid hb1
  clear hb1
  go_wp2_with fail
  simp only [hei, hmi]
  go_loopw [10, 11] (fun t i wr => ∃ (p : Nat), 2 ≤ p ∧ p ≤ e + 2 ∧ i = .int .u32 (p : Int) ∧ Hid (wr.ownsRow w.heap.size 73 1 t (flt fl p).length ((flt fl p).map encP)) ∧ Hid (RowKit.Below w.heap.size w wr)) (fun _ i _ => e + 2 - (intOf i).toNat)
  case atStart => exact ⟨2, by omega, by omega, rfl, Lib.hid (by rw [flt_two]; exact World.ownsRow_nil _ _ _ _), HB1⟩
  case round =>
    obtain ⟨p, hp2, hpN, rfl, HO, HB⟩ := hrel
    clear HB1
    obtain ⟨wo, hwo⟩ : ∃ wo, wo = wr := ⟨_, rfl⟩
    subst hwo
    obtain ⟨A6, c6, rfl⟩ := own_slice HO.out
    have hll := flt_len fl p
    have hzo := HB.out.size
    by_cases hlt : p < e + 2
    · have d1 : decide ((p : Int) < (e : Int) + 2) = true := decide_eq_true (by omega)
      have hsucc := flt_succ fl hp2
      obtain ⟨L, hL⟩ : ∃ L, (flt fl p).length = L := ⟨_, rfl⟩
      rw [hL] at HO hll ⊢
      have HSU := Lib.hid hsucc
      have HL := Lib.hid hL
      clear hsucc hL
      go_wp2_with fail
      go_loopw [10, 12] (fun t i wr => ∃ j : Nat, j ≤ n ∧ j ≤ 20 ∧ t = .slice A6 L c6 ∧ i = .int .i64 (j : Int) ∧ Hid (∀ k x, k < j → fl[k]? = some x → x % 30 ≠ p) ∧ wr = wo) (fun _ i _ => 20 - (intOf i).toNat)
      case atStart => exact ⟨0, by omega, by omega, rfl, rfl, Lib.hid (fun k x hk => by omega), rfl⟩
      case round =>
        obtain ⟨j, hjn, hj20, rfl, rfl, HNO, rfl⟩ := hrel
        by_cases hj : j < n ∧ j < 20
        · obtain ⟨hj1, hj2⟩ := hj
          have d2 : decide ((j : Int) < (n : Int)) = true := decide_eq_true (by omega)
          have d3 : decide ((j : Int) < 20) = true := decide_eq_true (by omega)
          obtain ⟨x, hx⟩ : ∃ x, fl[j]? = some x := ⟨_, List.getElem?_eq_getElem (by omega)⟩
          obtain ⟨ad, u, rfl, hadB, hu, hcu⟩ := (HR.out.below HB.out).at_ hj1
          have hux : u = .int .u32 (x : Int) := by
            simp only [Pgs, List.getElem?_map, hx, Option.map_some] at hu
            exact (Option.some.inj hu).symm
          subst hux
          have hx32 := hfb x (List.mem_of_getElem? hx)
          by_cases hxp : x % 30 = p
          · have d4 : (((x : Int) % 30) == (p : Int)) = true := by simp; omega
            have hhit := hit_yes hx hj2 hxp
            have hex : (x : Int) % 30 = (p : Int) := by omega
            have ho7 := fun o : Obj => own_move_ (w' := wr.alloc o) HO.out (fun g C _ hC => Below.heap_alloc wr o g (blk_lt hC))
            have HX := Lib.hid hx
            have HU := Lib.hid hu
            clear hx hu
            go_wp2_with (first | (at_builtin; refine wpList_append_any _ rfl (.tmp 59) (.tmp 61) _ rfl w.heap.size 73 i0 _ 1 4 Try.underlying99 ig0 iz0 iz1 iz2 rfl (by omega) (.slice A6 L c6) L _ (by rfl) (ho7 _) (wr.heap.size + 1) (some ⟨wr.heap.size, 0, none⟩) 1 1 [.int .u32 (p : Int)] (by rfl) (reads_one _ _ _) (by simp [Value.oneCell']) (by unfold maxLen; omega) (by omega) (by simp; omega) ?_))
            intro v8 w8 hown8 hg8 hat8
            have hnb : ∀ y, (Value.slice A6 L c6).ownBlock = some y → w.heap.size ≤ y := fun y hy => (HO.out.lt y hy).1
            have HO8 : Hid (w8.ownsRow w.heap.size 73 1 v8 (flt fl (p + 1)).length ((flt fl (p + 1)).map encP)) := Lib.hid (by
              rw [HSU.out, if_pos hhit, List.length_append, HL.out, List.map_append]
              exact hown8)
            have HB8 : Hid (RowKit.Below w.heap.size w w8) := Lib.hid ((HB.out.alloc hzo _).grown hg8 (by simp; omega) (fun y hy => by first | exact hnb y hy | exact hnb y hy.symm))
            clear hown8 hg8 hat8 ho7 hnb
            go_wp2_with fail
            exact ⟨⟨p + 1, by omega, by omega, by go_num, HO8, HB8⟩, by simp [intOf]; omega⟩
          · have d4 : (((x : Int) % 30) == (p : Int)) = false := by simp; omega
            have HNO2 : Hid (∀ k y, k < j + 1 → fl[k]? = some y → y % 30 ≠ p) := Lib.hid (fun k y hk hy => by
              rcases Nat.lt_or_ge k j with h | h
              · exact HNO.out k y h hy
              · obtain rfl : k = j := by omega
                rw [hx] at hy
                injection hy with hy
                rw [← hy]
                exact hxp)
            clear hx hu
            go_wp2_with fail
            exact ⟨⟨j + 1, by omega, by omega, rfl, by go_num, HNO2, trivial⟩, by simp [intOf]; omega⟩
        · have hhit := hit_no (fl := fl) (i := j) (p := p) HNO.out (by omega)
          have HO8 : Hid (wr.ownsRow w.heap.size 73 1 (.slice A6 L c6) (flt fl (p + 1)).length ((flt fl (p + 1)).map encP)) := Lib.hid (by
            rw [HSU.out, hhit]
            simp only [Bool.false_eq_true, if_false, List.append_nil]
            rw [HL.out]
            exact HO.out)
          by_cases hj1 : j < n
          · have d2 : decide ((j : Int) < (n : Int)) = true := decide_eq_true (by omega)
            have d3 : decide ((j : Int) < 20) = false := decide_eq_false (by omega)
            go_wp2_with fail
            exact ⟨⟨p + 1, by omega, by omega, by go_num, HO8, HB⟩, by simp [intOf]; omega⟩
          · have d2 : decide ((j : Int) < (n : Int)) = false := decide_eq_false (by omega)
            go_wp2_with fail
            exact ⟨⟨p + 1, by omega, by omega, by go_num, HO8, HB⟩, by simp [intOf]; omega⟩
    · obtain rfl : p = e + 2 := by omega
      have d1 : decide (((e + 2 : Nat) : Int) < (e : Int) + 2) = false := decide_eq_false (by omega)
      have d1' : decide ((e : Int) + 2 < (e : Int) + 2) = false := decide_eq_false (by omega)
      have hs := flt_sorted fl (e + 2)
      have hb := fun q (hq : q ∈ flt fl (e + 2)) => flt_mem hq
      generalize flt fl (e + 2) = l at HO hs hb hll ⊢
      obtain ⟨K, hK⟩ : ∃ K, l.length = K := ⟨_, rfl⟩
      rw [hK] at HO hll ⊢
      have HK := Lib.hid hK
      have HS := Lib.hid hs
      have HBD := Lib.hid hb
      clear hK hs hb
      have hB := HB.out
      have hO := HO.out
      go_upto_if 65 with fail
      go_cut [13] from 65 to 71 (fun s13 wc => Hid (Rec1 wc s13 (fRs l)) ∧ Hid (wc.ownsRow w.heap.size 73 1 (.slice A6 K c6) K (l.map encP)) ∧ Hid (RowKit.Below w.heap.size w wc))
      case first =>
        by_cases h0 : K = 0
        · have d5 : decide (0 < (K : Int)) = false := decide_eq_false (by omega)
          have hl0 : l = [] := List.eq_nil_of_length_eq_zero (by rw [HK.out]; exact h0)
          go_wp2_with fail
          go_meet
          case rel => exact ⟨Lib.hid (by rw [hl0]; exact Rec1.nil _), HO, HB⟩
        · have d5 : decide (0 < (K : Int)) = true := decide_eq_true (by omega)
          have hl0 : l ≠ [] := fun hh => h0 (by rw [← HK.out, hh]; rfl)
          have HL0 := Lib.hid hl0
          have ho7 := fun o : Obj => own_move_ (w' := wo.alloc o) hO (fun g C _ hC => Below.heap_alloc wo o g (blk_lt hC))
          clear hl0
          go_wp2_with (first | (at_builtin; refine wpList_append_any _ rfl (.tmp 66) (.tmp 69) _ rfl w.heap.size 101 ir _ 2 32 Try.underlying66 ri0 rz0 rz1 rz2 rfl (by omega) (.slice none 0 0) 0 [] (by rfl) (World.ownsRow_nil _ _ _ _) (wo.heap.size + 1) (some ⟨wo.heap.size, 0, none⟩) 1 1 [.int .u64 1, .slice A6 K c6] (by rfl) (reads_two _ _ _ _) (by simp [Value.oneCell']) (by unfold maxLen; omega) (by omega) (by simp; omega) ?_))
          intro v8 w8 hown8 hg8 hat8
          have hW8 : WRow w8 w.heap.size (fun k => w.heap.size ≤ k) v8 ([] ++ [(1, l)]) := wrow_append (rs1 := []) (n1 := 0) (A1 := none) (c1 := 0) (cs1 := []) rfl (World.ownsRow_nil _ _ _ _) (by intro k hk; simp [Value.ownBlock] at hk) ⟨rfl, by intro i r hi; simp at hi⟩ (RowsOf.one_ (T := 1) (ho7 _) (fun k hk => (hO.lt k hk).1)) (fun k hk => by simp at hk; show w.heap.size ≤ k; omega) (by simpa using hown8) hg8 (by simpa using hat8)
          have HR8 : Hid (Rec1 w8 v8 (fRs l)) := Lib.hid (by unfold fRs; rw [if_neg HL0.out]; exact Rec1.row hW8)
          have HO8 : Hid (w8.ownsRow w.heap.size 73 1 (.slice A6 K c6) K (l.map encP)) := Lib.hid (own_move_ (ho7 _) (fun g C hv hC => hg8.block g (blk_lt hC) (by simp [Value.ownBlock])))
          have HB8 : Hid (RowKit.Below w.heap.size w w8) := Lib.hid ((hB.alloc hzo _).grown hg8 (by simp; omega) (fun y hy => by simp [Value.ownBlock] at hy))
          clear hW8 hown8 hg8 hat8 ho7
          go_wp2_with fail
          go_meet
          case rel => exact ⟨HR8, HO8, HB8⟩
      case rest =>
        obtain ⟨HR13, HO13, HB13⟩ := hcut
        clear hB hO HO HB
        obtain ⟨A13, n13, c13, rfl, hRe, hcp⟩ := HR13.out
        have hzc := HB13.out.size
        have hfs : ∀ r ∈ fRs l, r.1 < 18446744073709551616 ∧ r.2 = l := fun r hr => by
          unfold fRs at hr
          split at hr
          · cases hr
          · rw [List.mem_singleton.1 hr]; exact ⟨by show 1 < 18446744073709551616; omega, rfl⟩
        have hll2 : l.length ≤ 31 := by rw [HK.out]; omega
        have hn13 : n13 ≤ 1 := by rw [← hRe.1]; unfold fRs; split <;> simp
        have htot : (rpAll (fRs l)).length ≤ 31 := by
          unfold fRs
          split
          · simp [rpAll]
          · show (l ++ []).length ≤ 31
            simpa using hll2
        have hnew : Calls Try.prog 40 #[.int .u32 ((e : Int) + 2), .int .u32 ((e : Int) + 2 + (m : Int)), .slice A13 n13 c13, .int .u64 1] wc fun x w' => ∃ p, x = .returned (.tuple #[.pointer (some ⟨p, 0, none⟩), .int .i64 0]) ∧ wc.heap.size ≤ p ∧ SpAt w' 0 (fun k => wc.heap.size ≤ k) p (sNew (e + 2) (e + 2 + m) 1 (fRs l)) ∧ Below wc.heap.size wc w' :=
          snew_any wc wc.heap.size A13 n13 c13 (fRs l) hRe hcp (Nat.le_refl _) (fun r hr => ⟨(hfs r hr).1, fun x hx => by rw [(hfs r hr).2] at hx; have := HBD.out x hx; omega⟩) (by omega) (fun r hr => by rw [(hfs r hr).2]; omega) (by omega) (e + 2) (e + 2 + m) 1 (by omega) ⟨by omega, by omega, by omega, fRs_right HS.out HBD.out⟩ 0 _ (Nat.zero_le _) (fun k hk => hk)
        rw [fRs_new] at hnew
        have hlo13 : ∀ k, (Value.slice A6 K c6).ownBlock = some k → k < wc.heap.size := fun k hk => (HO13.out.lt k hk).2
        clear hRe hcp hfs htot
        go_wp2_with fail
        refine hnew.mono ?_
        rintro x w5 ⟨p, rfl, hp, hS5, hb5⟩
        clear hnew
        have hz5 := hb5.size
        have hT5 : Tk w5 w.heap.size p (Fl l (e + 2) (e + 2 + m) 0) (.slice A6 K c6) l := ⟨_, hS5, by rw [HK.out]; exact own_move_ HO13.out (fun g C _ hC => hb5.block g (blk_lt hC)), fun k hk h => by have := hlo13 k hk; have h : wc.heap.size ≤ k := h; omega, fun k hk h => by have h : wc.heap.size ≤ k := h; omega⟩
        have hB5 := HB13.out.trans (hb5.mono hzc)
        have hus := susable_any hS5
        rw [show (Fl l (e + 2) (e + 2 + m) 0).us.length = K from by show (l.drop 0).length = K; rw [List.drop_zero]; exact HK.out] at hus
        have HT5 := Lib.hid hT5
        have HB5 := Lib.hid hB5
        clear hT5 hB5 hS5 hb5 hlo13
        go_wp2_with fail
        refine hus.mono ?_
        rintro x w5' ⟨rfl, rfl⟩
        clear hus
        go_wp2_with fail
        go_loopw [16, 17] (fun s i wr => ∃ t : Nat, t ≤ K + m ∧ s = .int .u32 (fLast l (e + 2) t : Int) ∧ i = .int .i64 (t : Int) ∧ Hid (Tk wr w.heap.size p (Fl l (e + 2) (e + 2 + m) t) (.slice A6 K c6) l) ∧ Hid (RowKit.Below w.heap.size w wr)) (fun _ i _ => K + m - (intOf i).toNat)
        case atStart => exact ⟨0, by omega, rfl, rfl, HT5, HB5⟩
        case round =>
          obtain ⟨t, ht, rfl, rfl, HT, HB⟩ := hrel
          clear HT5 HB5
          obtain ⟨wo3, hwo⟩ : ∃ wo3, wo3 = wr := ⟨_, rfl⟩
          subst hwo
          obtain ⟨ok, hS, hrow, hno, hlo⟩ := HT.out
          have hz3 := HB.out.size
          have htake := stake_any hS
          unfold STakeP at htake
          by_cases hlt : t < K + m
          · have d6 : decide ((t : Int) < (K : Int) + (m : Int)) = true := decide_eq_true (by omega)
            rw [Fl_take HS.out (by omega) (by rw [HK.out]; omega)] at htake
            have hlast := fLast_lt (i := t) HS.out HBD.out (show 2 ≤ e + 2 by omega)
            have hqb := fv_bound (i := t) (L := e + 2 + m) HBD.out (show 2 ≤ e + 2 by omega) (by omega) (by rw [HK.out]; omega)
            have hnx : fLast l (e + 2) (t + 1) = fv l (e + 2) t := by unfold fLast; rw [if_neg (by omega)]; rfl
            have hlq := fun h : t < l.length => fv_lo (l := l) (N := e + 2) h
            obtain ⟨q, hq⟩ : ∃ q, fv l (e + 2) t = q := ⟨_, rfl⟩
            obtain ⟨lst, hls⟩ : ∃ lst, fLast l (e + 2) t = lst := ⟨_, rfl⟩
            rw [hq] at htake hlast hqb hnx hlq
            rw [hls] at hlast ⊢
            rw [HK.out] at hlq
            have HNX := Lib.hid hnx
            have HLQ := Lib.hid hlq
            clear hnx hq hls hlq
            have d7 : decide ((q : Int) ≤ (lst : Int)) = false := decide_eq_false (by omega)
            have d7' : decide (q ≤ lst) = false := decide_eq_false (by omega)
            go_wp2_with fail
            refine htake.mono ?_
            rintro x w6 ⟨rfl, hS6, hF6⟩
            clear htake
            have hT6 := Tk.sfr hS6 hF6 hrow hno hlo
            have hB6 := HB.out.trans (hF6.below hz3 hlo)
            have hT6' := hT6
            obtain ⟨_, _, hrow6, _⟩ := hT6'
            rw [HK.out] at hrow6
            have HT6 := Lib.hid hT6
            have HB6 := Lib.hid hB6
            clear hT6 hB6 hS6 hF6 hS hrow hno hlo
            by_cases htK : t < K
            · have d8 : decide ((t : Int) < (K : Int)) = true := decide_eq_true (by omega)
              obtain ⟨ad, rfl, hcell⟩ := own_at_ hrow6 (HLQ.out htK)
              clear hrow6
              go_wp2_with fail
              exact ⟨⟨t + 1, by omega, by rw [HNX.out], by go_num, HT6, HB6⟩, by simp [intOf]; omega⟩
            · have d8 : decide ((t : Int) < (K : Int)) = false := decide_eq_false (by omega)
              clear hrow6
              go_wp2_with fail
              exact ⟨⟨t + 1, by omega, by rw [HNX.out], by go_num, HT6, HB6⟩, by simp [intOf]; omega⟩
          · obtain rfl : t = K + m := by omega
            have d6 : decide (((K + m : Nat) : Int) < (K : Int) + (m : Int)) = false := decide_eq_false (by omega)
            have d6' : decide ((K : Int) + (m : Int) < (K : Int) + (m : Int)) = false := decide_eq_false (by omega)
            have hKL : l.length + (e + 2 + m - (e + 2)) = K + m := by rw [HK.out]; omega
            have hfull := Fl_full (l := l) (N := e + 2) (L := e + 2 + m) (by omega)
            have hend := fun h => Fl_end (l := l) (N := e + 2) (L := e + 2 + m) (by omega) (by omega) HS.out HBD.out h
            rw [hKL] at hfull hend
            rw [hfull] at htake
            have hfin : (Fl l (e + 2) (e + 2 + m) (K + m)).fin = e + 2 + m := by show e + 2 + (K + m - l.length) = _; rw [HK.out]; omega
            have hLb : 0 < K + m → 2 ≤ fLast l (e + 2) (K + m) ∧ fLast l (e + 2) (K + m) < e + 2 + m := fun h => by
              have := fv_bound (l := l) (N := e + 2) (L := e + 2 + m) (i := K + m - 1) HBD.out (by omega) (by omega) (by rw [HK.out]; omega)
              unfold fLast
              rw [if_neg (by omega)]
              exact this
            have hL0 : K + m = 0 → fLast l (e + 2) (K + m) = 0 := fun h => by unfold fLast; rw [if_pos h]
            obtain ⟨lst, hls⟩ : ∃ lst, fLast l (e + 2) (K + m) = lst := ⟨_, rfl⟩
            rw [hls] at hend hLb hL0 ⊢
            have HEND := Lib.hid hend
            have HLB := Lib.hid hLb
            have HL0 := Lib.hid hL0
            clear hfull hend hLb hL0 hls hKL
            go_wp2_with fail
            refine htake.mono ?_
            rintro x w6 ⟨rfl, hS6, hF6⟩
            clear htake
            have hB6 := HB.out.trans (hF6.below hz3 hlo)
            have hE6 := send_any hS6
            rw [hfin] at hE6
            have hE6' : Calls Try.prog 49 #[.pointer (some ⟨p, 0, none⟩)] w6 fun e' w' => e' = .returned (.int .u32 ((e : Int) + 2 + (m : Int))) ∧ w6 = w' := hE6
            have hz6 := hB6.size
            have HB6 := Lib.hid hB6
            have HS6 := Lib.hid hS6
            clear hE6 hB6 hF6 hS hrow hno hfin hS6
            go_wp2_with fail
            refine hE6'.mono ?_
            rintro x w6' ⟨rfl, rfl⟩
            clear hE6'
            by_cases h0 : K + m = 0
            · have hl0 := HL0.out h0
              subst hl0
              go_wp2_with fail
              go_ret
              exact ⟨rfl, HB6.out⟩
            · obtain ⟨hl2, hlL⟩ := HLB.out (by omega)
              obtain ⟨S1, S2, hg1, ht2, hu2, hw2, hn2⟩ := HEND.out (by omega)
              have d9 : ((lst : Int) == 0) = false := by simp; omega
              have hgv := sgive_any HS6.out lst (by omega)
              unfold SGiveP at hgv
              rw [hg1] at hgv
              go_wp2_with fail
              refine hgv.mono ?_
              rintro x w7 ⟨rfl, hS7, hF7⟩
              clear hgv
              have hB7 := HB6.out.trans (hF7.below hz6 hlo)
              have hz7 := hB7.size
              have htk := stake_any hS7
              unfold STakeP at htk
              rw [ht2] at htk
              clear hF7 hS7
              go_wp2_with fail
              refine htk.mono ?_
              rintro x w8 ⟨rfl, hS8, hF8⟩
              clear htk
              have hB8 := hB7.trans (hF8.below hz7 hlo)
              have hz8 := hB8.size
              have hrc := srecs_any (sorts_at pdq12) (by omega) w8 p S2 0 ok hS8 (by rw [hu2]; exact Nat.zero_le _) (by rw [hn2]; exact Nat.zero_le _) (by rw [hw2]; exact Nat.zero_le _) (by rw [hw2]; intro r hr; cases hr) 9 (by omega)
              have hr0 : sRecs S2 9 = [] := by unfold sRecs; rw [hu2, hw2, hn2]; rfl
              rw [hr0] at hrc
              clear hF8 hS8
              go_wp2_with fail
              refine hrc.mono ?_
              rintro x w9 ⟨v9, rfl, hW9, hb9⟩
              obtain ⟨A9, c9, _, rfl, _⟩ := hW9.split
              have hB9 := hB8.trans (hb9.mono hz8)
              go_wp2_with fail
              go_ret
              exact ⟨rfl, hB9⟩
end Go.Proofs.Ythijobbhpbklmaa
