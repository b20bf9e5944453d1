/- SNew -/
import Derived.Test.YthijobbhpbklmaaSpPl6
import Derived.Test.YthijobbhpbklmaaSpPl8
import Derived.Deep.RegionHeld3
import Derived.Deep.DeepCutAuto
import Derived.Deep.CutBlock
/- space.New. -/
namespace Go.Proofs.Ythijobbhpbklmaa
open Go.RowKit Go.Maps
set_option linter.unusedVariables false
set_option linter.unusedSimpArgs false

theorem Reads.two (w : World) (a b : Value) (t : TypeId) : Reads (w.alloc (.cells #[a, b] t)) (w.heap.size + 1) 2 (some ⟨w.heap.size, 0, none⟩) 1 [a, b] := by
  have hb : (w.alloc (.cells #[a, b] t)).heap[w.heap.size]? = some (.cells #[a, b] t (0, 0)) := heap_alloc_new w _
  refine ⟨rfl, fun _ => ⟨_, rfl, by simp, fun j u hu => ?_⟩⟩
  rw [Addr.add_lit, Nat.zero_add, blk_cell hb]
  simpa using hu
def SNewOk (e l : Nat) (rs : List FRc) : Prop := 2 ≤ e ∧ e ≤ l ∧ l ≤ 65536 ∧ SpRight rs e
theorem own_lower_ {w : World} {base b' : Nat} {e : TypeId} {size n : Nat} {v : Value} {xs : List Value} (h : w.ownsRow base e size v n xs) (hb : b' ≤ base) : w.ownsRow b' e size v n xs := own_weaken h hb
theorem snew_no (w : World) (B : Nat) (A : Option Addr) (n c : Nat) (rs : List FRc) (h : Recs w B A n rs) (hBw : B ≤ w.heap.size) (hok : FROk rs) (hn : n ≤ 1000000000) (hpl : ∀ r ∈ rs, r.2.length ≤ 1000000000) (htot : (rpAll rs).length ≤ 1000000000) (e l o : Nat) (hno : ¬ SNewOk e l rs) :
    Calls Try.prog 40 #[.int .u32 (e : Int), .int .u32 (l : Int), .slice A n c, .int .u64 (o : Int)] w fun x w' => x = .returned (.tuple #[.pointer none, .int .i64 1]) ∧ Below w.heap.size w w' := by
  by_cases h1 : e < 2
  · have d1 : decide (e < 2) = true := decide_eq_true h1
    have d1' : decide ((e : Int) < 2) = true := decide_eq_true (by omega)
    go_enter Try.func40, Try.ntmps40
    go_wp2_with fail
    go_ret2
    exact ⟨rfl, Below.refl _ _⟩
  have d1 : decide (e < 2) = false := decide_eq_false h1
  have d1' : decide ((e : Int) < 2) = false := decide_eq_false (by omega)
  by_cases h2 : l < e
  · have d2 : decide (l < e) = true := decide_eq_true h2
    have d2' : decide ((l : Int) < (e : Int)) = true := decide_eq_true (by omega)
    go_enter Try.func40, Try.ntmps40
    go_wp2_with fail
    go_ret2
    exact ⟨rfl, Below.refl _ _⟩
  have d2 : decide (l < e) = false := decide_eq_false h2
  have d2' : decide ((l : Int) < (e : Int)) = false := decide_eq_false (by omega)
  by_cases h3 : 65536 < l
  · have d3 : decide (65536 < l) = true := decide_eq_true h3
    have d3' : decide ((65536 : Int) < (l : Int)) = true := decide_eq_true (by omega)
    go_enter Try.func40, Try.ntmps40
    go_wp2_with fail
    go_ret2
    exact ⟨rfl, Below.refl _ _⟩
  have d3 : decide (65536 < l) = false := decide_eq_false h3
  have d3' : decide ((65536 : Int) < (l : Int)) = false := decide_eq_false (by omega)
  have h4 : ¬ SpRight rs e := fun h4 => hno ⟨by omega, by omega, by omega, h4⟩
  have hr := spright_any w B A n c rs h hBw hok hn hpl htot e
  clear h hno
  go_enter Try.func40, Try.ntmps40
  go_wp2_with fail
  refine hr.mono ?_
  rintro x w1 ⟨b, rfl, hb, hb1⟩
  have hbf : b = false := by
    cases b with
    | false => rfl
    | true => exact absurd (hb.1 rfl) h4
  subst hbf
  go_wp2_with fail
  go_ret2
  exact ⟨rfl, hb1⟩

set_option maxRecDepth 100000 in
set_option maxHeartbeats 4000000 in
theorem snew_any (w : World) (B : Nat) (A : Option Addr) (n c : Nat) (rs : List FRc) (h : Recs w B A n rs) (hcp : ∀ (W : World), Below B w W → ∀ i r ad Ap np cp, rs[i]? = some r → A = some ad → RcAt W B (ad.add (i * 2)) r Ap np cp → np ≤ cp ∧ (Ap = none → cp = 0)) (hBw : B ≤ w.heap.size) (hok : FROk rs) (hn : n ≤ 1000000000) (hpl : ∀ r ∈ rs, r.2.length ≤ 1000000000) (htot : (rpAll rs).length ≤ 1000000000) (e l o : Nat) (ho64 : o < 18446744073709551616) (hyes : SNewOk e l rs) (base : Nat) (ok : Nat → Prop) (hbase : base ≤ w.heap.size) (hfr : ∀ k, w.heap.size ≤ k → ok k) :
    Calls Try.prog 40 #[.int .u32 (e : Int), .int .u32 (l : Int), .slice A n c, .int .u64 (o : Int)] w fun x w' => ∃ p, x = .returned (.tuple #[.pointer (some ⟨p, 0, none⟩), .int .i64 0]) ∧ w.heap.size ≤ p ∧ SpAt w' base ok p (sNew e l o rs) ∧ Below w.heap.size w w' := by
  obtain ⟨g1, g2, g3, g4⟩ := hyes
  have hmm := @run_makeMap Try.prog
  have d1 : decide (e < 2) = false := decide_eq_false (by omega)
  have d1' : decide ((e : Int) < 2) = false := decide_eq_false (by omega)
  have d2 : decide (l < e) = false := decide_eq_false (by omega)
  have d2' : decide ((l : Int) < (e : Int)) = false := decide_eq_false (by omega)
  have d3 : decide (65536 < l) = false := decide_eq_false (by omega)
  have d3' : decide ((65536 : Int) < (l : Int)) = false := decide_eq_false (by omega)
  have hr := spright_any w B A n c rs h hBw hok hn hpl htot e
  have HREC := Lib.hid h
  have HCP := Lib.hid hcp
  have hlen := h.1
  clear h hcp
  go_enter Try.func40, Try.ntmps40
  go_wp2_with fail
  refine hr.mono ?_
  rintro x w1 ⟨b, rfl, hb, hb1⟩
  have hbf : b = true := hb.2 g4
  subst hbf
  clear hr hb
  have HR4 := Lib.hid g4
  clear g4
  go_wp2_with fail
  have hz1 := hb1.size
  have hm1 : MSet (((((w1.alloc (.map #[] 0)).alloc (.map #[] 0)).alloc (.map #[] 0)).alloc (.map #[] 0)).alloc (.cells #[.int .u32 (e : Int), .int .u32 (l : Int), .slice none 0 0, .map (some w1.heap.size), .map (some (w1.heap.size + 1)), .map (some (w1.heap.size + 1 + 1)), .map (some (w1.heap.size + 1 + 1 + 1))] 143)) w1.heap.size [] := ((((MSet.made w1).below ((Below.refl _ _).alloc (Nat.le_refl _) _) (MSet.made w1).lt).below ((Below.refl _ _).alloc (Nat.le_refl _) _) (by simp only [World.size_alloc]; omega)).below ((Below.refl _ _).alloc (Nat.le_refl _) _) (by simp only [World.size_alloc]; omega)).below ((Below.refl _ _).alloc (Nat.le_refl _) _) (by simp only [World.size_alloc]; omega)
  have hm2 : MSet (((((w1.alloc (.map #[] 0)).alloc (.map #[] 0)).alloc (.map #[] 0)).alloc (.map #[] 0)).alloc (.cells #[.int .u32 (e : Int), .int .u32 (l : Int), .slice none 0 0, .map (some w1.heap.size), .map (some (w1.heap.size + 1)), .map (some (w1.heap.size + 1 + 1)), .map (some (w1.heap.size + 1 + 1 + 1))] 143)) (w1.heap.size + 1) [] := by
    have h0 := MSet.made (w1.alloc (.map #[] 0))
    rw [World.size_alloc] at h0
    exact (((h0.below ((Below.refl _ _).alloc (Nat.le_refl _) _) h0.lt).below ((Below.refl _ _).alloc (Nat.le_refl _) _) (by simp only [World.size_alloc]; omega)).below ((Below.refl _ _).alloc (Nat.le_refl _) _) (by simp only [World.size_alloc]; omega))
  have hm3 : MSet (((((w1.alloc (.map #[] 0)).alloc (.map #[] 0)).alloc (.map #[] 0)).alloc (.map #[] 0)).alloc (.cells #[.int .u32 (e : Int), .int .u32 (l : Int), .slice none 0 0, .map (some w1.heap.size), .map (some (w1.heap.size + 1)), .map (some (w1.heap.size + 1 + 1)), .map (some (w1.heap.size + 1 + 1 + 1))] 143)) (w1.heap.size + 1 + 1) [] := by
    have h0 := MSet.made ((w1.alloc (.map #[] 0)).alloc (.map #[] 0))
    rw [World.size_alloc, World.size_alloc] at h0
    exact ((h0.below ((Below.refl _ _).alloc (Nat.le_refl _) _) h0.lt).below ((Below.refl _ _).alloc (Nat.le_refl _) _) (by simp only [World.size_alloc]; omega))
  have hm4 : MSet (((((w1.alloc (.map #[] 0)).alloc (.map #[] 0)).alloc (.map #[] 0)).alloc (.map #[] 0)).alloc (.cells #[.int .u32 (e : Int), .int .u32 (l : Int), .slice none 0 0, .map (some w1.heap.size), .map (some (w1.heap.size + 1)), .map (some (w1.heap.size + 1 + 1)), .map (some (w1.heap.size + 1 + 1 + 1))] 143)) (w1.heap.size + 1 + 1 + 1) [] := by
    have h0 := MSet.made (((w1.alloc (.map #[] 0)).alloc (.map #[] 0)).alloc (.map #[] 0))
    rw [World.size_alloc, World.size_alloc, World.size_alloc] at h0
    exact (h0.below ((Below.refl _ _).alloc (Nat.le_refl _) _) h0.lt)
  have hbk : SBlk (((((w1.alloc (.map #[] 0)).alloc (.map #[] 0)).alloc (.map #[] 0)).alloc (.map #[] 0)).alloc (.cells #[.int .u32 (e : Int), .int .u32 (l : Int), .slice none 0 0, .map (some w1.heap.size), .map (some (w1.heap.size + 1)), .map (some (w1.heap.size + 1 + 1)), .map (some (w1.heap.size + 1 + 1 + 1))] 143)) (w1.heap.size + 1 + 1 + 1 + 1) e l (.slice none 0 0) w1.heap.size (w1.heap.size + 1) (w1.heap.size + 1 + 1) (w1.heap.size + 1 + 1 + 1) := by
    have h0 := heap_alloc_new ((((w1.alloc (.map #[] 0)).alloc (.map #[] 0)).alloc (.map #[] 0)).alloc (.map #[] 0)) (.cells #[.int .u32 (e : Int), .int .u32 (l : Int), .slice none 0 0, .map (some w1.heap.size), .map (some (w1.heap.size + 1)), .map (some (w1.heap.size + 1 + 1)), .map (some (w1.heap.size + 1 + 1 + 1))] 143)
    rw [World.size_alloc, World.size_alloc, World.size_alloc, World.size_alloc] at h0
    exact h0
  have hb5 : Below w.heap.size w (((((w1.alloc (.map #[] 0)).alloc (.map #[] 0)).alloc (.map #[] 0)).alloc (.map #[] 0)).alloc (.cells #[.int .u32 (e : Int), .int .u32 (l : Int), .slice none 0 0, .map (some w1.heap.size), .map (some (w1.heap.size + 1)), .map (some (w1.heap.size + 1 + 1)), .map (some (w1.heap.size + 1 + 1 + 1))] 143)) := ((((hb1.alloc hz1 _).alloc (by simp; omega) _).alloc (by simp; omega) _).alloc (by simp; omega) _).alloc (by simp; omega) _
  have hS5 : SAt (((((w1.alloc (.map #[] 0)).alloc (.map #[] 0)).alloc (.map #[] 0)).alloc (.map #[] 0)).alloc (.cells #[.int .u32 (e : Int), .int .u32 (l : Int), .slice none 0 0, .map (some w1.heap.size), .map (some (w1.heap.size + 1)), .map (some (w1.heap.size + 1 + 1)), .map (some (w1.heap.size + 1 + 1 + 1))] 143)) base ok (w1.heap.size + 1 + 1 + 1 + 1) (sNew e l o []) (.slice none 0 0) w1.heap.size (w1.heap.size + 1) (w1.heap.size + 1 + 1) (w1.heap.size + 1 + 1 + 1) :=
    ⟨hbk, by omega, hfr _ (by omega), ⟨none, 0, [], rfl, World.ownsRow_nil _ _ _ _, by intro k hk; simp [Value.ownBlock] at hk, by intro i l hi; simp [sNew, wNew] at hi⟩, hm1, hm2, hm3, hm4, ⟨by omega, by omega, by omega, by omega⟩, ⟨hfr _ (by omega), hfr _ (by omega), hfr _ (by omega), hfr _ (by omega)⟩, by omega, sNew_nil_ok g1 g2 g3⟩
  clear hm1 hm2 hm3 hm4 hbk hmm
  generalize (((((w1.alloc (.map #[] 0)).alloc (.map #[] 0)).alloc (.map #[] 0)).alloc (.map #[] 0)).alloc (.cells #[.int .u32 (e : Int), .int .u32 (l : Int), .slice none 0 0, .map (some w1.heap.size), .map (some (w1.heap.size + 1)), .map (some (w1.heap.size + 1 + 1)), .map (some (w1.heap.size + 1 + 1 + 1))] 143)) = w5 at hS5 hb5 ⊢
  obtain ⟨b1, hb1e⟩ : ∃ b1, w1.heap.size = b1 := ⟨_, rfl⟩
  rw [hb1e] at hS5 hz1 ⊢
  obtain ⟨q1, q2, q3, q4, p⟩ : Unit × Unit × Unit × Unit × Unit := ⟨(), (), (), (), ()⟩
  clear q1 q2 q3 q4 p hb1e hb1
  have hpp : w.heap.size ≤ b1 + 1 + 1 + 1 + 1 := by omega
  generalize b1 + 1 + 1 + 1 + 1 = p at hS5 hpp ⊢
  have hbu : w.heap.size ≤ b1 := hz1
  have hbh : w.heap.size ≤ b1 + 1 + 1 + 1 := by omega
  generalize b1 + 1 + 1 + 1 = bh at hS5 hbh ⊢
  generalize b1 + 1 + 1 = bg at hS5 ⊢
  generalize b1 + 1 = bf at hS5 ⊢
  generalize b1 = bu at hS5 hbu ⊢
  clear hz1
  go_loopw [43] (fun i wr => ∃ (k : Nat) (Wv : Value), k ≤ n ∧ i = .int .i64 (k : Int) ∧ (∀ x, Wv.ownBlock = some x → w.heap.size ≤ x) ∧ Hid (SAt wr base ok p (sNew e l o (rs.take k)) Wv bu bf bg bh) ∧ Hid (Below w.heap.size w wr)) (fun i _ => n - (intOf i).toNat)
  case atStart => exact ⟨0, .slice none 0 0, Nat.zero_le _, rfl, (by intro x hx; simp [Value.ownBlock] at hx), Lib.hid (by rw [List.take_zero]; exact hS5), Lib.hid hb5⟩
  case round =>
    obtain ⟨wo, hwo⟩ : ∃ wo, wo = wr := ⟨_, rfl⟩
    subst hwo
    obtain ⟨k, Wv, hk, rfl, HWO, HS, HB⟩ := hrel
    clear hS5 hb5
    by_cases hlt : k < n
    · obtain ⟨r, ad, Ap, np, cp, hrk, rfl, hRC0⟩ := HREC.out.at_ hlt
      have hRC := hRC0.below (HB.out.mono hBw)
      obtain ⟨hc1, hc2⟩ := HCP.out wo (HB.out.mono hBw) k r ad Ap np cp hrk rfl hRC
      obtain ⟨hadB, ca, cb, hpg⟩ := hRC
      have cb : wo.cell? ⟨(ad.add (k * 2)).block, (ad.add (k * 2)).off + 1, none⟩ = some (.slice Ap np cp) := cb
      obtain ⟨hr1, hr2⟩ := hok r (List.mem_of_getElem? hrk)
      have hnp := hpl r (List.mem_of_getElem? hrk)
      have hpl1 : r.2.length = np := by have := hRC0.2.2.2.1; rw [Pgs_length] at this; omega
      have HPG := Lib.hid hRC0.2.2.2
      have HRK := Lib.hid hrk
      have HRR := Lib.hid (HR4.out k r hrk)
      have HR2 := Lib.hid hr2
      obtain ⟨T, pl⟩ := r
      have hT : T < 18446744073709551616 := hr1
      have hpl1 : pl.length = np := hpl1
      have hnp : pl.length ≤ 1000000000 := hnp
      clear hRC0 hpg hr1 hr2 hrk
      obtain ⟨_, _, _, s3, _, _, s6⟩ := HS.out.blk.cells
      have hbe := heap_alloc_new wo (.cells #[.int .u64 (T : Int), .slice Ap np cp] 101)
      have hzp : p < wo.heap.size := blk_lt HS.out.blk
      by_cases hto : T ≤ o
      · have t1 : decide (T ≤ o) = true := decide_eq_true hto
        have t1' : decide ((T : Int) ≤ (o : Int)) = true := decide_eq_true (by omega)
        have hzo : bu < wo.heap.size := HS.out.su.lt
        go_upto_block 2 with fail
        have hz0 : (wo.alloc (.cells #[.int .u64 (T : Int), .slice Ap np cp] 101)).heap.size = wo.heap.size + 1 := by simp
        have hS0 := Lib.hid (HS.out.move (w' := wo.alloc (.cells #[.int .u64 (T : Int), .slice Ap np cp] 101)) (ok' := ok) (fun k hk ho => ⟨Below.heap_alloc wo _ k hk, ho⟩))
        have hB0 := Lib.hid (HB.out.alloc HB.out.size (.cells #[.int .u64 (T : Int), .slice Ap np cp] 101))
        generalize wo.alloc (.cells #[.int .u64 (T : Int), .slice Ap np cp] 101) = wi at hS0 hB0 hz0 ⊢
        go_wp2_with fail
        go_loopw [77] (fun i wr => ∃ j : Nat, j ≤ np ∧ i = .int .i64 (j : Int) ∧ Hid (SAt wr base ok p ({ sNew e l o (rs.take k) with us := (sNew e l o (rs.take k)).us ++ pl.take j } : Sp) Wv bu bf bg bh) ∧ Hid (Below w.heap.size w wr)) (fun i _ => np - (intOf i).toNat)
        case atStart => exact ⟨0, Nat.zero_le _, rfl, Lib.hid (by rw [List.take_zero, List.append_nil]; exact hS0.out), hB0⟩
        case round =>
          obtain ⟨j, hj, rfl, HSi, HBi⟩ := hrel
          by_cases hlt2 : j < np
          · obtain ⟨q, hq⟩ : ∃ q, pl[j]? = some q := ⟨_, List.getElem?_eq_getElem (by omega)⟩
            obtain ⟨ap, uu, rfl, hapB, huu, hcu⟩ := (HPG.out.below (HBi.out.mono hBw)).at_ hlt2
            have huq : uu = .int .u32 (q : Int) := by
              simp only [Pgs, List.getElem?_map, hq, Option.map_some] at huu
              exact (Option.some.inj huu).symm
            subst huq
            obtain ⟨r1, r2, r3, r4⟩ := HRR.out.2.2 j q hq
            have hq32 := HR2.out q (List.mem_of_getElem? hq)
            have htk : pl.take (j + 1) = pl.take j ++ [q] := rtake_succ hq
            have hnm : ¬ (q ∈ (({ sNew e l o (rs.take k) with us := (sNew e l o (rs.take k)).us ++ pl.take j } : Sp)).us ∨ q ∈ (({ sNew e l o (rs.take k) with us := (sNew e l o (rs.take k)).us ++ pl.take j } : Sp)).hd) := by
              have hN := (sNew_mem (e := e) (l := l) (o := o) (rs := rs.take k) (p := q))
              have r4' : q ∉ rpAll (rs.take k) ∧ q ∉ pl.take j := by
                constructor
                · exact fun h => r4 (List.mem_append.2 (.inl h))
                · exact fun h => r4 (List.mem_append.2 (.inr h))
              rintro (h | h)
              · rcases List.mem_append.1 h with h | h
                · exact r4'.1 (hN.1 (.inl h))
                · exact r4'.2 h
              · exact r4'.1 (hN.1 (.inr h))
            have hok1 := HSi.out.wf.us1 rfl rfl (p := q) ⟨r1, r2⟩ hnm
            have hlen := nodup_len HSi.out.wf.un (fun x hx => (HSi.out.wf.u1 x hx).2)
            have hfin : (({ sNew e l o (rs.take k) with us := (sNew e l o (rs.take k)).us ++ pl.take j } : Sp)).fin = e := rfl
            rw [hfin] at hlen
            have hadd := add_any wr bu (({ sNew e l o (rs.take k) with us := (sNew e l o (rs.take k)).us ++ pl.take j } : Sp)).us HSi.out.su (by omega) q (by omega) (fun h => hnm (.inl h))
            have HTK := Lib.hid htk
            clear r1 r2 r3 r4 hq htk hnm huu
            have HOK := Lib.hid hok1
            clear hok1
            go_wp2_with fail
            refine hadd.mono ?_
            rintro x wj ⟨rfl, hms, hgr⟩
            have hSj := HSi.out.us1 hms hgr HOK.out
            have hBj := HBi.out.grown hgr HBi.out.size (fun z hz => by injection hz with hz; omega)
            go_wp2_with fail
            exact ⟨⟨j + 1, by omega, by go_num, Lib.hid (by rw [HTK.out]; simpa [List.append_assoc] using hSj), Lib.hid hBj⟩, by simp [intOf]; omega⟩
          · obtain rfl : j = np := by omega
            have hall : pl.take j = pl := List.take_of_length_le (by omega)
            rw [hall] at HSi
            go_wp2_with fail
            exact ⟨⟨k + 1, _, by omega, by go_num, HWO, Lib.hid (by rw [rtake_succ HRK.out, sNew_old hto]; exact HSi.out), HBi⟩, by simp [intOf]; omega⟩
      · have t1 : decide (T ≤ o) = false := decide_eq_false hto
        have t1' : decide ((T : Int) ≤ (o : Int)) = false := decide_eq_false (by omega)
        obtain ⟨ir, ri0, rz0, rz1, rz2⟩ := info_parts info_rec
        go_wp2_with fail
        have hz0 : (wo.alloc (.cells #[.int .u64 (T : Int), .slice Ap np cp] 101)).heap.size = wo.heap.size + 1 := by simp
        have hS0 := Lib.hid (HS.out.move (w' := wo.alloc (.cells #[.int .u64 (T : Int), .slice Ap np cp] 101)) (ok' := ok) (fun k hk ho => ⟨Below.heap_alloc wo _ k hk, ho⟩))
        have hB0 := Lib.hid (HB.out.alloc HB.out.size (.cells #[.int .u64 (T : Int), .slice Ap np cp] 101))
        generalize wo.alloc (.cells #[.int .u64 (T : Int), .slice Ap np cp] 101) = wi at hS0 hB0 hz0 hbe ⊢
        obtain ⟨bx, hbxe⟩ : ∃ bx, wo.heap.size = bx := ⟨_, rfl⟩
        rw [hbxe] at hbe hz0 ⊢
        obtain ⟨WL, hWL⟩ : ∃ WL, (sNew e l o (rs.take k)).wait.length = WL := ⟨_, rfl⟩
        have hWLk : WL ≤ k := by
          rw [← hWL]
          show ((rs.take k).filter _).length ≤ k
          exact Nat.le_trans (List.length_filter_le _ _) (by rw [List.length_take]; omega)
        obtain ⟨A0, c0, cs0, hWv, _⟩ := hS0.out.row
        rw [hWL] at hWv
        subst hWv
        have hWlt : ∀ k, (Value.slice A0 WL c0).ownBlock = some k → k < bx := by
          intro k hk
          obtain ⟨_, _, cs9, _, ho9, _⟩ := HS.out.row
          have := (ho9.lt k hk).2
          omega
        have HWLT := Lib.hid hWlt
        clear hWlt
        have HWL := Lib.hid hWL
        clear hWL
        have hxb := blk2 hbe
        have hq0 : wi.drew.cell? ⟨bx, 0, none⟩ = some (.int .u64 (T : Int)) ∧ wi.drew.cell? ⟨bx, 1, none⟩ = some (.slice Ap np cp) := ⟨hxb.1, hxb.2.1⟩
        have hps : wi.drew.cell? ⟨p, 2, none⟩ = some (.slice A0 WL c0) := hS0.out.blk.cells.2.2.1
        have hcl := pclone_any wi.drew B Ap np cp pl (HPG.out.below (hB0.out.mono hBw)).drew hc2 hc1 (by omega)
        have hS0d := Lib.hid (hS0.out.move (w' := wi.drew) (ok' := ok) (fun k hk ho => ⟨rfl, ho⟩))
        have hzw := hB0.out.size
        have hbxz : bx < wi.heap.size := by omega
        clear s3 s6
        refine wp_region_held_drew (S := (fun w' => w'.cell? ⟨bx, 0, none⟩ = some (.int .u64 (T : Int)) ∧ w'.cell? ⟨bx, 1, none⟩ = some (.slice Ap np cp))) (by kernel_rfl) ?_ (fun hHeld => ?_)
        · first | exact hq9 _ | exact hq8 | exact hq2 _ | exact hq1 | exact hq0
        refine takeP (i := 0) rfl (by kernel_rfl) (by kernel_rfl) (by kernel_rfl) (fun _ _ _ h => h) (by rfl) (by assumption) (v := ?_) ?_ ?_
        rotate_left
        · intro w' hSw
          try dsimp only at hSw
          go_simp
          try with_reducible rfl
        try simp only [Act.put, List.setIfInBounds_toArray, List.set_cons_zero, List.set_cons_succ]
        refine takeP (i := 1) rfl (by kernel_rfl) (by kernel_rfl) (by kernel_rfl) (fun _ _ _ h => h) (by rfl) (by assumption) (v := ?_) ?_ ?_
        rotate_left
        · intro w' hSw
          try dsimp only at hSw
          go_simp
          try with_reducible rfl
        try simp only [Act.put, List.setIfInBounds_toArray, List.set_cons_zero, List.set_cons_succ]
        refine takeP (i := 2) rfl (by kernel_rfl) (by kernel_rfl) (by kernel_rfl) (fun _ _ _ h => h) (by rfl) (by assumption) (v := ?_) ?_ ?_
        rotate_left
        · intro w' hSw
          try dsimp only at hSw
          go_simp
          try with_reducible rfl
        try simp only [Act.put, List.setIfInBounds_toArray, List.set_cons_zero, List.set_cons_succ]
        refine takeP (i := 3) rfl (by kernel_rfl) (by kernel_rfl) (by kernel_rfl) (fun _ _ _ h => h) (by rfl) (by assumption) (v := ?_) ?_ ?_
        rotate_left
        · intro w' hSw
          try dsimp only at hSw
          go_simp
          try with_reducible rfl
        try simp only [Act.put, List.setIfInBounds_toArray, List.set_cons_zero, List.set_cons_succ]
        refine takeP (i := 5) rfl (by kernel_rfl) (by kernel_rfl) (by kernel_rfl) (fun _ _ _ h => h) (by rfl) (by assumption) (v := ?_) ?_ ?_
        rotate_left
        · intro w' hSw
          try dsimp only at hSw
          go_simp
          try with_reducible rfl
        try simp only [Act.put, List.setIfInBounds_toArray, List.set_cons_zero, List.set_cons_succ]
        refine takeP (i := 6) rfl (by kernel_rfl) (by kernel_rfl) (by kernel_rfl) (fun _ _ _ h => h) (by rfl) (by assumption) (v := ?_) ?_ ?_
        rotate_left
        · intro w' hSw
          try dsimp only at hSw
          go_simp
          try with_reducible rfl
        try simp only [Act.put, List.setIfInBounds_toArray, List.set_cons_zero, List.set_cons_succ]
        refine takeP (i := 7) rfl (by kernel_rfl) (by kernel_rfl) (by kernel_rfl) (fun _ _ _ h => h) (by rfl) (by assumption) (v := ?_) ?_ ?_
        rotate_left
        · intro w' hSw
          try dsimp only at hSw
          go_simp
          try with_reducible rfl
        try simp only [Act.put, List.setIfInBounds_toArray, List.set_cons_zero, List.set_cons_succ]
        refine takeP (i := 8) rfl (by kernel_rfl) (by kernel_rfl) (by kernel_rfl) (fun _ _ _ h => h) (by rfl) (by assumption) (v := ?_) ?_ ?_
        rotate_left
        · intro w' hSw
          try dsimp only at hSw
          go_simp
          try with_reducible rfl
        try simp only [Act.put, List.setIfInBounds_toArray, List.set_cons_zero, List.set_cons_succ]
        refine carryP2 (i := 4) (j := 9) rfl rfl (by kernel_rfl) (by rfl) (by rfl) (fun K hK => ?_) (fun K hK => ?_)
        · go_simp
          refine hK.out _ _ ?_ (fun hHeld => ?_)
          · first | exact hq9 _ | exact hq8 | exact hq2 _ | exact hq1 | exact hq0
          clear hK K
          try simp only [Act.put, List.setIfInBounds_toArray, List.set_cons_zero, List.set_cons_succ]
          refine carryP (i := 9) rfl (by kernel_rfl) (by rfl) (fun K hK => ?_)
          go_simp
          refine hcl.mono ?_
          rintro x2 w5 ⟨v5, rfl, hown5, hb5⟩
          obtain ⟨A5, c5, rfl⟩ := own_slice hown5
          have hS5 := hS0d.out.move (w' := w5) (ok' := ok) (fun k hk ho => ⟨hb5.block k hk, ho⟩)
          have hz5 := hb5.size
          have hz5' : wi.heap.size ≤ w5.heap.size := hz5
          obtain ⟨A0', c0', cs5, hW5, hoW, hWok, hrow5⟩ := hS5.row
          clear hW5 A0' c0'
          have hbx5 := (hb5.block bx hbxz).trans hbe
          have hq1 : w5.cell? ⟨bx, 0, none⟩ = some (.int .u64 (T : Int)) ∧ w5.cell? ⟨bx, 1, none⟩ = some (.slice Ap np cp) := ⟨(blk2 hbx5).1, (blk2 hbx5).2.1⟩
          have hq2 : ∀ oo, (w5.alloc oo).cell? ⟨bx, 0, none⟩ = some (.int .u64 (T : Int)) ∧ (w5.alloc oo).cell? ⟨bx, 1, none⟩ = some (.slice Ap np cp) := fun oo => ⟨(blk2 (blk_alloc hbx5 oo)).1, (blk2 (blk_alloc hbx5 oo)).2.1⟩
          have hps5 : w5.cell? ⟨p, 2, none⟩ = some (.slice A0 WL c0) := hS5.blk.cells.2.2.1
          have hps6 : ∀ oo, (w5.alloc oo).cell? ⟨p, 2, none⟩ = some (.slice A0 WL c0) := fun oo => (show SBlk (w5.alloc oo) p _ _ _ _ _ _ _ from blk_alloc hS5.blk oo).cells.2.2.1
          have hpo5 : ∀ k, (Value.slice A5 np c5).ownBlock = some k → ok k := fun k hk => hfr k (by have := (hown5.lt k hk).1; have h9 : wi.heap.size ≤ k := this; omega)
          have hfr5 : ∀ k, w5.heap.size ≤ k → ok k := fun k hk => hfr k (by omega)
          refine hK.out _ _ ?_ (fun hHeld => ?_)
          · first | exact hq9 _ | exact hq8 | exact hq2 _ | exact hq1 | exact hq0
          clear hK K
          try simp only [Act.put, List.setIfInBounds_toArray, List.set_cons_zero, List.set_cons_succ]
          refine takeP (i := 10) rfl (by kernel_rfl) (by kernel_rfl) (by kernel_rfl) (fun _ _ _ h => h) (by rfl) (by assumption) (v := ?_) ?_ ?_
          rotate_left
          · intro w' hSw
            try dsimp only at hSw
            go_simp
            try with_reducible rfl
          try simp only [Act.put, List.setIfInBounds_toArray, List.set_cons_zero, List.set_cons_succ]
          refine carryP (i := 11) rfl (by kernel_rfl) (by rfl) (fun K hK => ?_)
          go_simp
          refine hK.out _ _ ?_ (fun hHeld => ?_)
          · first | exact hq9 _ | exact hq8 | exact hq2 _ | exact hq1 | exact hq0
          clear hK K
          try simp only [Act.put, List.setIfInBounds_toArray, List.set_cons_zero, List.set_cons_succ]
          refine carryP (i := 12) rfl (by kernel_rfl) (by rfl) (fun K hK => ?_)
          rw [HWL.out] at hoW
          refine wp_append_any _ (.tmp 63) (.tmp 70) _ rfl base 101 ir _ 2 32 Try.underlying66 ri0 rz0 rz1 rz2 rfl (by omega) (.slice A0 WL c0) WL _ (by rfl) (hoW.alloc _) (w5.heap.size + 1) (some ⟨w5.heap.size, 0, none⟩) 1 1 [.int .u64 (T : Int), .slice A5 np c5] (by rfl) (Reads.two _ _ _ _) (by simp [Value.oneCell']) (by unfold maxLen; omega) (by omega) (by simp; omega) ?_
          intro v8 w8 hown8 hg8 hat8
          have hoW' : w5.ownsRow base 101 2 (.slice A0 WL c0) (sNew e l o (rs.take k)).wait.length cs5 := by rw [HWL.out]; exact hoW
          have hown8' : w8.ownsRow base 101 2 v8 ((sNew e l o (rs.take k)).wait.length + 1) (cs5 ++ [.int .u64 (T : Int), .slice A5 np c5]) := by rw [HWL.out]; exact hown8
          obtain ⟨hp8, hS9, hF9⟩ := wait_step (r := (T, pl)) hS5 hfr5 (own_lower_ hown5 (show base ≤ wi.heap.size by omega)) hpo5 hoW' hWok hrow5 hown8' hg8 hat8
          have hb8 := hp8.trans hS5.blk
          have hbx8 : w8.heap[bx]? = some (.cells #[.int .u64 (T : Int), .slice Ap np cp] 101 (0, 0)) := (hg8.block bx (by simp; omega) (fun ee => by
            have := HWLT.out bx ee.symm
            omega)).trans (blk_alloc hbx5 _)
          have hq8 : w8.cell? ⟨bx, 0, none⟩ = some (.int .u64 (T : Int)) ∧ w8.cell? ⟨bx, 1, none⟩ = some (.slice Ap np cp) := ⟨(blk2 hbx8).1, (blk2 hbx8).2.1⟩
          have hq9 : ∀ u, (w8.setCell ⟨p, 2, none⟩ u).cell? ⟨bx, 0, none⟩ = some (.int .u64 (T : Int)) ∧ (w8.setCell ⟨p, 2, none⟩ u).cell? ⟨bx, 1, none⟩ = some (.slice Ap np cp) := fun u => ⟨(World.cell?_setCell_far _ _ _ _ (show p ≠ bx by omega)).trans hq8.1, (World.cell?_setCell_far _ _ _ _ (show p ≠ bx by omega)).trans hq8.2⟩
          have k2 : w8.cell? ⟨p, 2, none⟩ = some (.slice A0 WL c0) := blk_cell hb8 2
          have k2f : w8.frozen? ⟨p, 2, none⟩ = false := blk_frozen hb8 2
          obtain ⟨A8, c8, rfl⟩ := own_slice hown8
          refine hK.out _ _ ?_ (fun hHeld => ?_)
          · first | exact hq9 _ | exact hq8 | exact hq2 _ | exact hq1 | exact hq0
          clear hK K
          try simp only [Act.put, List.setIfInBounds_toArray, List.set_cons_zero, List.set_cons_succ]
          refine takeP (i := 13) rfl (by kernel_rfl) (by kernel_rfl) (by kernel_rfl) (fun _ _ _ h => h) (by rfl) (by assumption) (v := ?_) ?_ ?_
          rotate_left
          · intro w' hSw
            try dsimp only at hSw
            go_simp
            try with_reducible rfl
          try simp only [Act.put, List.setIfInBounds_toArray, List.set_cons_zero, List.set_cons_succ]
          refine takeP (i := 14) rfl (by kernel_rfl) (by kernel_rfl) (by kernel_rfl) (fun _ _ _ h => h) (by rfl) (by assumption) (v := ?_) ?_ ?_
          rotate_left
          · intro w' hSw
            try dsimp only at hSw
            go_simp
            try with_reducible rfl
          try simp only [Act.put, List.setIfInBounds_toArray, List.set_cons_zero, List.set_cons_succ]
          refine carryP (i := 15) rfl (by kernel_rfl) (by rfl) (fun K hK => ?_)
          go_simp
          refine hK.out _ _ ?_ (fun hHeld => ?_)
          · first | exact hq9 _ | exact hq8 | exact hq2 _ | exact hq1 | exact hq0
          clear hK K
          try simp only [Act.put, List.setIfInBounds_toArray, List.set_cons_zero, List.set_cons_succ]
          refine wpAnyH_done (by kernel_rfl) ?_ _
          have HS9 := Lib.hid hS9
          have HWO9 : ∀ x, (Value.slice A8 (WL + 1) c8).ownBlock = some x → w.heap.size ≤ x := by
            intro x hx
            rcases hat8 with h8 | h8
            · exact HWO x (h8.symm.trans hx)
            · rw [h8] at hx
              injection hx with hx
              rw [← hx]
              simp
              omega
          have HB9 := Lib.hid (Below.setCell (p := ⟨p, 2, none⟩) ((((hB0.out.trans ((Below.refl _ wi).drew.mono hzw)).trans (hb5.mono hzw)).alloc (by omega) _).grown hg8 (by simp; omega) (fun k hk => by first | exact HWO k hk | exact HWO k hk.symm)) hpp (.slice A8 (WL + 1) c8))
          have hqa := (hq9 (.slice A8 (WL + 1) c8)).1
          have hqb := (hq9 (.slice A8 (WL + 1) c8)).2
          clear hq0 hq1 hq2 hq8 hq9 k2 k2f hps hps5 hps6 hb8 hbx8 hS9 hp8 hF9 hown8' hoW' hrow5 hg8 hat8 hown5 hb5 hbx5 hS5 hxb hbe
          generalize w8.setCell ⟨p, 2, none⟩ (.slice A8 (WL + 1) c8) = w9 at HS9 HB9 hqa hqb ⊢
          go_wp2_with fail
          go_loopw [77] (fun i wr => ∃ j : Nat, j ≤ np ∧ i = .int .i64 (j : Int) ∧ Hid (SAt wr base ok p ({ sNew e l o (rs.take k) with wait := (sNew e l o (rs.take k)).wait ++ [(T, pl)], hd := (sNew e l o (rs.take k)).hd ++ pl.take j } : Sp) (.slice A8 (WL + 1) c8) bu bf bg bh) ∧ Hid (Below w.heap.size w wr)) (fun i _ => np - (intOf i).toNat)
          case atStart => exact ⟨0, Nat.zero_le _, rfl, Lib.hid (by rw [List.take_zero, List.append_nil]; exact HS9.out), HB9⟩
          case round =>
            obtain ⟨j, hj, rfl, HSi, HBi⟩ := hrel
            by_cases hlt2 : j < np
            · obtain ⟨q, hq⟩ : ∃ q, pl[j]? = some q := ⟨_, List.getElem?_eq_getElem (by omega)⟩
              obtain ⟨ap, uu, rfl, hapB, huu, hcu⟩ := (HPG.out.below (HBi.out.mono hBw)).at_ hlt2
              have huq : uu = .int .u32 (q : Int) := by
                simp only [Pgs, List.getElem?_map, hq, Option.map_some] at huu
                exact (Option.some.inj huu).symm
              subst huq
              obtain ⟨r1, r2, r3, r4⟩ := HRR.out.2.2 j q hq
              have hq32 := HR2.out q (List.mem_of_getElem? hq)
              have htk : pl.take (j + 1) = pl.take j ++ [q] := rtake_succ hq
              have hnm : ¬ (q ∈ (({ sNew e l o (rs.take k) with wait := (sNew e l o (rs.take k)).wait ++ [(T, pl)], hd := (sNew e l o (rs.take k)).hd ++ pl.take j } : Sp)).us ∨ q ∈ (({ sNew e l o (rs.take k) with wait := (sNew e l o (rs.take k)).wait ++ [(T, pl)], hd := (sNew e l o (rs.take k)).hd ++ pl.take j } : Sp)).hd) := by
                have hN := (sNew_mem (e := e) (l := l) (o := o) (rs := rs.take k) (p := q))
                have r4' : q ∉ rpAll (rs.take k) ∧ q ∉ pl.take j := by
                  constructor
                  · exact fun h => r4 (List.mem_append.2 (.inl h))
                  · exact fun h => r4 (List.mem_append.2 (.inr h))
                rintro (h | h)
                · exact r4'.1 (hN.1 (.inl h))
                · rcases List.mem_append.1 h with h | h
                  · exact r4'.1 (hN.1 (.inr h))
                  · exact r4'.2 h
              have hok1 := HSi.out.wf.hd1 rfl rfl (p := q) ⟨r1, r2⟩ hnm
              have hlen := nodup_len HSi.out.wf.hn (fun x hx => (HSi.out.wf.h1 x hx).2)
              have hfin : (({ sNew e l o (rs.take k) with wait := (sNew e l o (rs.take k)).wait ++ [(T, pl)], hd := (sNew e l o (rs.take k)).hd ++ pl.take j } : Sp)).fin = e := rfl
              rw [hfin] at hlen
              have hadd := add_any wr bh (({ sNew e l o (rs.take k) with wait := (sNew e l o (rs.take k)).wait ++ [(T, pl)], hd := (sNew e l o (rs.take k)).hd ++ pl.take j } : Sp)).hd HSi.out.sh (by omega) q (by omega) (fun h => hnm (.inr h))
              have HTK := Lib.hid htk
              clear r1 r2 r3 r4 hq htk hnm huu
              have HOK := Lib.hid hok1
              clear hok1
              go_wp2_with fail
              refine hadd.mono ?_
              rintro x wj ⟨rfl, hms, hgr⟩
              have hSj := HSi.out.hd1 hms hgr HOK.out
              have hBj := HBi.out.grown hgr HBi.out.size (fun z hz => by injection hz with hz; omega)
              go_wp2_with fail
              exact ⟨⟨j + 1, by omega, by go_num, Lib.hid (by rw [HTK.out]; simpa [List.append_assoc] using hSj), Lib.hid hBj⟩, by simp [intOf]; omega⟩
            · obtain rfl : j = np := by omega
              have hall : pl.take j = pl := List.take_of_length_le (by omega)
              rw [hall] at HSi
              go_wp2_with fail
              exact ⟨⟨k + 1, _, by omega, by go_num, HWO9, Lib.hid (by rw [rtake_succ HRK.out, sNew_new hto]; exact HSi.out), HBi⟩, by simp [intOf]; omega⟩

        · go_simp
          refine hcl.mono ?_
          rintro x2 w5 ⟨v5, rfl, hown5, hb5⟩
          obtain ⟨A5, c5, rfl⟩ := own_slice hown5
          have hS5 := hS0d.out.move (w' := w5) (ok' := ok) (fun k hk ho => ⟨hb5.block k hk, ho⟩)
          have hz5 := hb5.size
          have hz5' : wi.heap.size ≤ w5.heap.size := hz5
          obtain ⟨A0', c0', cs5, hW5, hoW, hWok, hrow5⟩ := hS5.row
          clear hW5 A0' c0'
          have hbx5 := (hb5.block bx hbxz).trans hbe
          have hq1 : w5.cell? ⟨bx, 0, none⟩ = some (.int .u64 (T : Int)) ∧ w5.cell? ⟨bx, 1, none⟩ = some (.slice Ap np cp) := ⟨(blk2 hbx5).1, (blk2 hbx5).2.1⟩
          have hq2 : ∀ oo, (w5.alloc oo).cell? ⟨bx, 0, none⟩ = some (.int .u64 (T : Int)) ∧ (w5.alloc oo).cell? ⟨bx, 1, none⟩ = some (.slice Ap np cp) := fun oo => ⟨(blk2 (blk_alloc hbx5 oo)).1, (blk2 (blk_alloc hbx5 oo)).2.1⟩
          have hps5 : w5.cell? ⟨p, 2, none⟩ = some (.slice A0 WL c0) := hS5.blk.cells.2.2.1
          have hps6 : ∀ oo, (w5.alloc oo).cell? ⟨p, 2, none⟩ = some (.slice A0 WL c0) := fun oo => (show SBlk (w5.alloc oo) p _ _ _ _ _ _ _ from blk_alloc hS5.blk oo).cells.2.2.1
          have hpo5 : ∀ k, (Value.slice A5 np c5).ownBlock = some k → ok k := fun k hk => hfr k (by have := (hown5.lt k hk).1; have h9 : wi.heap.size ≤ k := this; omega)
          have hfr5 : ∀ k, w5.heap.size ≤ k → ok k := fun k hk => hfr k (by omega)
          refine hK.out _ _ ?_ (fun hHeld => ?_)
          · first | exact hq9 _ | exact hq8 | exact hq2 _ | exact hq1 | exact hq0
          clear hK K
          try simp only [Act.put, List.setIfInBounds_toArray, List.set_cons_zero, List.set_cons_succ]
          refine takeP (i := 10) rfl (by kernel_rfl) (by kernel_rfl) (by kernel_rfl) (fun _ _ _ h => h) (by rfl) (by assumption) (v := ?_) ?_ ?_
          rotate_left
          · intro w' hSw
            try dsimp only at hSw
            go_simp
            try with_reducible rfl
          try simp only [Act.put, List.setIfInBounds_toArray, List.set_cons_zero, List.set_cons_succ]
          refine carryP2 (i := 4) (j := 11) rfl rfl (by kernel_rfl) (by rfl) (by rfl) (fun K hK => ?_) (fun K hK => ?_)
          · go_simp
            refine hK.out _ _ ?_ (fun hHeld => ?_)
            · first | exact hq9 _ | exact hq8 | exact hq2 _ | exact hq1 | exact hq0
            clear hK K
            try simp only [Act.put, List.setIfInBounds_toArray, List.set_cons_zero, List.set_cons_succ]
            refine carryP (i := 11) rfl (by kernel_rfl) (by rfl) (fun K hK => ?_)
            go_simp
            refine hK.out _ _ ?_ (fun hHeld => ?_)
            · first | exact hq9 _ | exact hq8 | exact hq2 _ | exact hq1 | exact hq0
            clear hK K
            try simp only [Act.put, List.setIfInBounds_toArray, List.set_cons_zero, List.set_cons_succ]
            refine carryP (i := 12) rfl (by kernel_rfl) (by rfl) (fun K hK => ?_)
            rw [HWL.out] at hoW
            refine wp_append_any _ (.tmp 63) (.tmp 70) _ rfl base 101 ir _ 2 32 Try.underlying66 ri0 rz0 rz1 rz2 rfl (by omega) (.slice A0 WL c0) WL _ (by rfl) (hoW.alloc _) (w5.heap.size + 1) (some ⟨w5.heap.size, 0, none⟩) 1 1 [.int .u64 (T : Int), .slice A5 np c5] (by rfl) (Reads.two _ _ _ _) (by simp [Value.oneCell']) (by unfold maxLen; omega) (by omega) (by simp; omega) ?_
            intro v8 w8 hown8 hg8 hat8
            have hoW' : w5.ownsRow base 101 2 (.slice A0 WL c0) (sNew e l o (rs.take k)).wait.length cs5 := by rw [HWL.out]; exact hoW
            have hown8' : w8.ownsRow base 101 2 v8 ((sNew e l o (rs.take k)).wait.length + 1) (cs5 ++ [.int .u64 (T : Int), .slice A5 np c5]) := by rw [HWL.out]; exact hown8
            obtain ⟨hp8, hS9, hF9⟩ := wait_step (r := (T, pl)) hS5 hfr5 (own_lower_ hown5 (show base ≤ wi.heap.size by omega)) hpo5 hoW' hWok hrow5 hown8' hg8 hat8
            have hb8 := hp8.trans hS5.blk
            have hbx8 : w8.heap[bx]? = some (.cells #[.int .u64 (T : Int), .slice Ap np cp] 101 (0, 0)) := (hg8.block bx (by simp; omega) (fun ee => by
              have := HWLT.out bx ee.symm
              omega)).trans (blk_alloc hbx5 _)
            have hq8 : w8.cell? ⟨bx, 0, none⟩ = some (.int .u64 (T : Int)) ∧ w8.cell? ⟨bx, 1, none⟩ = some (.slice Ap np cp) := ⟨(blk2 hbx8).1, (blk2 hbx8).2.1⟩
            have hq9 : ∀ u, (w8.setCell ⟨p, 2, none⟩ u).cell? ⟨bx, 0, none⟩ = some (.int .u64 (T : Int)) ∧ (w8.setCell ⟨p, 2, none⟩ u).cell? ⟨bx, 1, none⟩ = some (.slice Ap np cp) := fun u => ⟨(World.cell?_setCell_far _ _ _ _ (show p ≠ bx by omega)).trans hq8.1, (World.cell?_setCell_far _ _ _ _ (show p ≠ bx by omega)).trans hq8.2⟩
            have k2 : w8.cell? ⟨p, 2, none⟩ = some (.slice A0 WL c0) := blk_cell hb8 2
            have k2f : w8.frozen? ⟨p, 2, none⟩ = false := blk_frozen hb8 2
            obtain ⟨A8, c8, rfl⟩ := own_slice hown8
            refine hK.out _ _ ?_ (fun hHeld => ?_)
            · first | exact hq9 _ | exact hq8 | exact hq2 _ | exact hq1 | exact hq0
            clear hK K
            try simp only [Act.put, List.setIfInBounds_toArray, List.set_cons_zero, List.set_cons_succ]
            refine takeP (i := 13) rfl (by kernel_rfl) (by kernel_rfl) (by kernel_rfl) (fun _ _ _ h => h) (by rfl) (by assumption) (v := ?_) ?_ ?_
            rotate_left
            · intro w' hSw
              try dsimp only at hSw
              go_simp
              try with_reducible rfl
            try simp only [Act.put, List.setIfInBounds_toArray, List.set_cons_zero, List.set_cons_succ]
            refine takeP (i := 14) rfl (by kernel_rfl) (by kernel_rfl) (by kernel_rfl) (fun _ _ _ h => h) (by rfl) (by assumption) (v := ?_) ?_ ?_
            rotate_left
            · intro w' hSw
              try dsimp only at hSw
              go_simp
              try with_reducible rfl
            try simp only [Act.put, List.setIfInBounds_toArray, List.set_cons_zero, List.set_cons_succ]
            refine carryP (i := 15) rfl (by kernel_rfl) (by rfl) (fun K hK => ?_)
            go_simp
            refine hK.out _ _ ?_ (fun hHeld => ?_)
            · first | exact hq9 _ | exact hq8 | exact hq2 _ | exact hq1 | exact hq0
            clear hK K
            try simp only [Act.put, List.setIfInBounds_toArray, List.set_cons_zero, List.set_cons_succ]
            refine wpAnyH_done (by kernel_rfl) ?_ _
            have HS9 := Lib.hid hS9
            have HWO9 : ∀ x, (Value.slice A8 (WL + 1) c8).ownBlock = some x → w.heap.size ≤ x := by
              intro x hx
              rcases hat8 with h8 | h8
              · exact HWO x (h8.symm.trans hx)
              · rw [h8] at hx
                injection hx with hx
                rw [← hx]
                simp
                omega
            have HB9 := Lib.hid (Below.setCell (p := ⟨p, 2, none⟩) ((((hB0.out.trans ((Below.refl _ wi).drew.mono hzw)).trans (hb5.mono hzw)).alloc (by omega) _).grown hg8 (by simp; omega) (fun k hk => by first | exact HWO k hk | exact HWO k hk.symm)) hpp (.slice A8 (WL + 1) c8))
            have hqa := (hq9 (.slice A8 (WL + 1) c8)).1
            have hqb := (hq9 (.slice A8 (WL + 1) c8)).2
            clear hq0 hq1 hq2 hq8 hq9 k2 k2f hps hps5 hps6 hb8 hbx8 hS9 hp8 hF9 hown8' hoW' hrow5 hg8 hat8 hown5 hb5 hbx5 hS5 hxb hbe
            generalize w8.setCell ⟨p, 2, none⟩ (.slice A8 (WL + 1) c8) = w9 at HS9 HB9 hqa hqb ⊢
            go_wp2_with fail
            go_loopw [77] (fun i wr => ∃ j : Nat, j ≤ np ∧ i = .int .i64 (j : Int) ∧ Hid (SAt wr base ok p ({ sNew e l o (rs.take k) with wait := (sNew e l o (rs.take k)).wait ++ [(T, pl)], hd := (sNew e l o (rs.take k)).hd ++ pl.take j } : Sp) (.slice A8 (WL + 1) c8) bu bf bg bh) ∧ Hid (Below w.heap.size w wr)) (fun i _ => np - (intOf i).toNat)
            case atStart => exact ⟨0, Nat.zero_le _, rfl, Lib.hid (by rw [List.take_zero, List.append_nil]; exact HS9.out), HB9⟩
            case round =>
              obtain ⟨j, hj, rfl, HSi, HBi⟩ := hrel
              by_cases hlt2 : j < np
              · obtain ⟨q, hq⟩ : ∃ q, pl[j]? = some q := ⟨_, List.getElem?_eq_getElem (by omega)⟩
                obtain ⟨ap, uu, rfl, hapB, huu, hcu⟩ := (HPG.out.below (HBi.out.mono hBw)).at_ hlt2
                have huq : uu = .int .u32 (q : Int) := by
                  simp only [Pgs, List.getElem?_map, hq, Option.map_some] at huu
                  exact (Option.some.inj huu).symm
                subst huq
                obtain ⟨r1, r2, r3, r4⟩ := HRR.out.2.2 j q hq
                have hq32 := HR2.out q (List.mem_of_getElem? hq)
                have htk : pl.take (j + 1) = pl.take j ++ [q] := rtake_succ hq
                have hnm : ¬ (q ∈ (({ sNew e l o (rs.take k) with wait := (sNew e l o (rs.take k)).wait ++ [(T, pl)], hd := (sNew e l o (rs.take k)).hd ++ pl.take j } : Sp)).us ∨ q ∈ (({ sNew e l o (rs.take k) with wait := (sNew e l o (rs.take k)).wait ++ [(T, pl)], hd := (sNew e l o (rs.take k)).hd ++ pl.take j } : Sp)).hd) := by
                  have hN := (sNew_mem (e := e) (l := l) (o := o) (rs := rs.take k) (p := q))
                  have r4' : q ∉ rpAll (rs.take k) ∧ q ∉ pl.take j := by
                    constructor
                    · exact fun h => r4 (List.mem_append.2 (.inl h))
                    · exact fun h => r4 (List.mem_append.2 (.inr h))
                  rintro (h | h)
                  · exact r4'.1 (hN.1 (.inl h))
                  · rcases List.mem_append.1 h with h | h
                    · exact r4'.1 (hN.1 (.inr h))
                    · exact r4'.2 h
                have hok1 := HSi.out.wf.hd1 rfl rfl (p := q) ⟨r1, r2⟩ hnm
                have hlen := nodup_len HSi.out.wf.hn (fun x hx => (HSi.out.wf.h1 x hx).2)
                have hfin : (({ sNew e l o (rs.take k) with wait := (sNew e l o (rs.take k)).wait ++ [(T, pl)], hd := (sNew e l o (rs.take k)).hd ++ pl.take j } : Sp)).fin = e := rfl
                rw [hfin] at hlen
                have hadd := add_any wr bh (({ sNew e l o (rs.take k) with wait := (sNew e l o (rs.take k)).wait ++ [(T, pl)], hd := (sNew e l o (rs.take k)).hd ++ pl.take j } : Sp)).hd HSi.out.sh (by omega) q (by omega) (fun h => hnm (.inr h))
                have HTK := Lib.hid htk
                clear r1 r2 r3 r4 hq htk hnm huu
                have HOK := Lib.hid hok1
                clear hok1
                go_wp2_with fail
                refine hadd.mono ?_
                rintro x wj ⟨rfl, hms, hgr⟩
                have hSj := HSi.out.hd1 hms hgr HOK.out
                have hBj := HBi.out.grown hgr HBi.out.size (fun z hz => by injection hz with hz; omega)
                go_wp2_with fail
                exact ⟨⟨j + 1, by omega, by go_num, Lib.hid (by rw [HTK.out]; simpa [List.append_assoc] using hSj), Lib.hid hBj⟩, by simp [intOf]; omega⟩
              · obtain rfl : j = np := by omega
                have hall : pl.take j = pl := List.take_of_length_le (by omega)
                rw [hall] at HSi
                go_wp2_with fail
                exact ⟨⟨k + 1, _, by omega, by go_num, HWO9, Lib.hid (by rw [rtake_succ HRK.out, sNew_new hto]; exact HSi.out), HBi⟩, by simp [intOf]; omega⟩

          · go_simp
            refine hK.out _ _ ?_ (fun hHeld => ?_)
            · first | exact hq9 _ | exact hq8 | exact hq2 _ | exact hq1 | exact hq0
            clear hK K
            try simp only [Act.put, List.setIfInBounds_toArray, List.set_cons_zero, List.set_cons_succ]
            refine carryP (i := 4) rfl (by kernel_rfl) (by rfl) (fun K hK => ?_)
            go_simp
            refine hK.out _ _ ?_ (fun hHeld => ?_)
            · first | exact hq9 _ | exact hq8 | exact hq2 _ | exact hq1 | exact hq0
            clear hK K
            try simp only [Act.put, List.setIfInBounds_toArray, List.set_cons_zero, List.set_cons_succ]
            refine carryP (i := 12) rfl (by kernel_rfl) (by rfl) (fun K hK => ?_)
            rw [HWL.out] at hoW
            refine wp_append_any _ (.tmp 63) (.tmp 70) _ rfl base 101 ir _ 2 32 Try.underlying66 ri0 rz0 rz1 rz2 rfl (by omega) (.slice A0 WL c0) WL _ (by rfl) (hoW.alloc _) (w5.heap.size + 1) (some ⟨w5.heap.size, 0, none⟩) 1 1 [.int .u64 (T : Int), .slice A5 np c5] (by rfl) (Reads.two _ _ _ _) (by simp [Value.oneCell']) (by unfold maxLen; omega) (by omega) (by simp; omega) ?_
            intro v8 w8 hown8 hg8 hat8
            have hoW' : w5.ownsRow base 101 2 (.slice A0 WL c0) (sNew e l o (rs.take k)).wait.length cs5 := by rw [HWL.out]; exact hoW
            have hown8' : w8.ownsRow base 101 2 v8 ((sNew e l o (rs.take k)).wait.length + 1) (cs5 ++ [.int .u64 (T : Int), .slice A5 np c5]) := by rw [HWL.out]; exact hown8
            obtain ⟨hp8, hS9, hF9⟩ := wait_step (r := (T, pl)) hS5 hfr5 (own_lower_ hown5 (show base ≤ wi.heap.size by omega)) hpo5 hoW' hWok hrow5 hown8' hg8 hat8
            have hb8 := hp8.trans hS5.blk
            have hbx8 : w8.heap[bx]? = some (.cells #[.int .u64 (T : Int), .slice Ap np cp] 101 (0, 0)) := (hg8.block bx (by simp; omega) (fun ee => by
              have := HWLT.out bx ee.symm
              omega)).trans (blk_alloc hbx5 _)
            have hq8 : w8.cell? ⟨bx, 0, none⟩ = some (.int .u64 (T : Int)) ∧ w8.cell? ⟨bx, 1, none⟩ = some (.slice Ap np cp) := ⟨(blk2 hbx8).1, (blk2 hbx8).2.1⟩
            have hq9 : ∀ u, (w8.setCell ⟨p, 2, none⟩ u).cell? ⟨bx, 0, none⟩ = some (.int .u64 (T : Int)) ∧ (w8.setCell ⟨p, 2, none⟩ u).cell? ⟨bx, 1, none⟩ = some (.slice Ap np cp) := fun u => ⟨(World.cell?_setCell_far _ _ _ _ (show p ≠ bx by omega)).trans hq8.1, (World.cell?_setCell_far _ _ _ _ (show p ≠ bx by omega)).trans hq8.2⟩
            have k2 : w8.cell? ⟨p, 2, none⟩ = some (.slice A0 WL c0) := blk_cell hb8 2
            have k2f : w8.frozen? ⟨p, 2, none⟩ = false := blk_frozen hb8 2
            obtain ⟨A8, c8, rfl⟩ := own_slice hown8
            refine hK.out _ _ ?_ (fun hHeld => ?_)
            · first | exact hq9 _ | exact hq8 | exact hq2 _ | exact hq1 | exact hq0
            clear hK K
            try simp only [Act.put, List.setIfInBounds_toArray, List.set_cons_zero, List.set_cons_succ]
            refine takeP (i := 13) rfl (by kernel_rfl) (by kernel_rfl) (by kernel_rfl) (fun _ _ _ h => h) (by rfl) (by assumption) (v := ?_) ?_ ?_
            rotate_left
            · intro w' hSw
              try dsimp only at hSw
              go_simp
              try with_reducible rfl
            try simp only [Act.put, List.setIfInBounds_toArray, List.set_cons_zero, List.set_cons_succ]
            refine takeP (i := 14) rfl (by kernel_rfl) (by kernel_rfl) (by kernel_rfl) (fun _ _ _ h => h) (by rfl) (by assumption) (v := ?_) ?_ ?_
            rotate_left
            · intro w' hSw
              try dsimp only at hSw
              go_simp
              try with_reducible rfl
            try simp only [Act.put, List.setIfInBounds_toArray, List.set_cons_zero, List.set_cons_succ]
            refine carryP (i := 15) rfl (by kernel_rfl) (by rfl) (fun K hK => ?_)
            go_simp
            refine hK.out _ _ ?_ (fun hHeld => ?_)
            · first | exact hq9 _ | exact hq8 | exact hq2 _ | exact hq1 | exact hq0
            clear hK K
            try simp only [Act.put, List.setIfInBounds_toArray, List.set_cons_zero, List.set_cons_succ]
            refine wpAnyH_done (by kernel_rfl) ?_ _
            have HS9 := Lib.hid hS9
            have HWO9 : ∀ x, (Value.slice A8 (WL + 1) c8).ownBlock = some x → w.heap.size ≤ x := by
              intro x hx
              rcases hat8 with h8 | h8
              · exact HWO x (h8.symm.trans hx)
              · rw [h8] at hx
                injection hx with hx
                rw [← hx]
                simp
                omega
            have HB9 := Lib.hid (Below.setCell (p := ⟨p, 2, none⟩) ((((hB0.out.trans ((Below.refl _ wi).drew.mono hzw)).trans (hb5.mono hzw)).alloc (by omega) _).grown hg8 (by simp; omega) (fun k hk => by first | exact HWO k hk | exact HWO k hk.symm)) hpp (.slice A8 (WL + 1) c8))
            have hqa := (hq9 (.slice A8 (WL + 1) c8)).1
            have hqb := (hq9 (.slice A8 (WL + 1) c8)).2
            clear hq0 hq1 hq2 hq8 hq9 k2 k2f hps hps5 hps6 hb8 hbx8 hS9 hp8 hF9 hown8' hoW' hrow5 hg8 hat8 hown5 hb5 hbx5 hS5 hxb hbe
            generalize w8.setCell ⟨p, 2, none⟩ (.slice A8 (WL + 1) c8) = w9 at HS9 HB9 hqa hqb ⊢
            go_wp2_with fail
            go_loopw [77] (fun i wr => ∃ j : Nat, j ≤ np ∧ i = .int .i64 (j : Int) ∧ Hid (SAt wr base ok p ({ sNew e l o (rs.take k) with wait := (sNew e l o (rs.take k)).wait ++ [(T, pl)], hd := (sNew e l o (rs.take k)).hd ++ pl.take j } : Sp) (.slice A8 (WL + 1) c8) bu bf bg bh) ∧ Hid (Below w.heap.size w wr)) (fun i _ => np - (intOf i).toNat)
            case atStart => exact ⟨0, Nat.zero_le _, rfl, Lib.hid (by rw [List.take_zero, List.append_nil]; exact HS9.out), HB9⟩
            case round =>
              obtain ⟨j, hj, rfl, HSi, HBi⟩ := hrel
              by_cases hlt2 : j < np
              · obtain ⟨q, hq⟩ : ∃ q, pl[j]? = some q := ⟨_, List.getElem?_eq_getElem (by omega)⟩
                obtain ⟨ap, uu, rfl, hapB, huu, hcu⟩ := (HPG.out.below (HBi.out.mono hBw)).at_ hlt2
                have huq : uu = .int .u32 (q : Int) := by
                  simp only [Pgs, List.getElem?_map, hq, Option.map_some] at huu
                  exact (Option.some.inj huu).symm
                subst huq
                obtain ⟨r1, r2, r3, r4⟩ := HRR.out.2.2 j q hq
                have hq32 := HR2.out q (List.mem_of_getElem? hq)
                have htk : pl.take (j + 1) = pl.take j ++ [q] := rtake_succ hq
                have hnm : ¬ (q ∈ (({ sNew e l o (rs.take k) with wait := (sNew e l o (rs.take k)).wait ++ [(T, pl)], hd := (sNew e l o (rs.take k)).hd ++ pl.take j } : Sp)).us ∨ q ∈ (({ sNew e l o (rs.take k) with wait := (sNew e l o (rs.take k)).wait ++ [(T, pl)], hd := (sNew e l o (rs.take k)).hd ++ pl.take j } : Sp)).hd) := by
                  have hN := (sNew_mem (e := e) (l := l) (o := o) (rs := rs.take k) (p := q))
                  have r4' : q ∉ rpAll (rs.take k) ∧ q ∉ pl.take j := by
                    constructor
                    · exact fun h => r4 (List.mem_append.2 (.inl h))
                    · exact fun h => r4 (List.mem_append.2 (.inr h))
                  rintro (h | h)
                  · exact r4'.1 (hN.1 (.inl h))
                  · rcases List.mem_append.1 h with h | h
                    · exact r4'.1 (hN.1 (.inr h))
                    · exact r4'.2 h
                have hok1 := HSi.out.wf.hd1 rfl rfl (p := q) ⟨r1, r2⟩ hnm
                have hlen := nodup_len HSi.out.wf.hn (fun x hx => (HSi.out.wf.h1 x hx).2)
                have hfin : (({ sNew e l o (rs.take k) with wait := (sNew e l o (rs.take k)).wait ++ [(T, pl)], hd := (sNew e l o (rs.take k)).hd ++ pl.take j } : Sp)).fin = e := rfl
                rw [hfin] at hlen
                have hadd := add_any wr bh (({ sNew e l o (rs.take k) with wait := (sNew e l o (rs.take k)).wait ++ [(T, pl)], hd := (sNew e l o (rs.take k)).hd ++ pl.take j } : Sp)).hd HSi.out.sh (by omega) q (by omega) (fun h => hnm (.inr h))
                have HTK := Lib.hid htk
                clear r1 r2 r3 r4 hq htk hnm huu
                have HOK := Lib.hid hok1
                clear hok1
                go_wp2_with fail
                refine hadd.mono ?_
                rintro x wj ⟨rfl, hms, hgr⟩
                have hSj := HSi.out.hd1 hms hgr HOK.out
                have hBj := HBi.out.grown hgr HBi.out.size (fun z hz => by injection hz with hz; omega)
                go_wp2_with fail
                exact ⟨⟨j + 1, by omega, by go_num, Lib.hid (by rw [HTK.out]; simpa [List.append_assoc] using hSj), Lib.hid hBj⟩, by simp [intOf]; omega⟩
              · obtain rfl : j = np := by omega
                have hall : pl.take j = pl := List.take_of_length_le (by omega)
                rw [hall] at HSi
                go_wp2_with fail
                exact ⟨⟨k + 1, _, by omega, by go_num, HWO9, Lib.hid (by rw [rtake_succ HRK.out, sNew_new hto]; exact HSi.out), HBi⟩, by simp [intOf]; omega⟩


    · obtain rfl : k = n := by omega
      have hall : rs.take k = rs := List.take_of_length_le (by omega)
      rw [hall] at HS
      clear hall
      go_wp2_with fail
      go_ret2
      exact ⟨p, rfl, hpp, ⟨_, _, _, _, _, HS.out⟩, HB.out⟩
end Go.Proofs.Ythijobbhpbklmaa
