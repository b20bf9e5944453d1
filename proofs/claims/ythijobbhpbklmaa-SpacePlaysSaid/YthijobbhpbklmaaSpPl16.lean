/- SBrP -/
import Derived.Test.YthijobbhpbklmaaSpPl13
import Derived.Test.YthijobbhpbklmaaPSpacePlaysx7
import Derived.Test.YthijobbhpbklmaaPSpacePlaysx11
/- The statements' helpers over records (layer 8): what they answer. The walks are printed by the kit's printer. -/
namespace Go.Proofs.Ythijobbhpbklmaa
open Go.RowKit Go.Proofs.YthijobbhpbklmaaW.PrintWords Go.Proofs.Ythijobbhpbklmaa.PSpacePlays
set_option linter.unusedVariables false
set_option linter.unusedSimpArgs false

def ints (pl : List Nat) : List Int := pl.map fun (x : Nat) => (x : Int)
theorem ints_length (pl : List Nat) : (ints pl).length = pl.length := by simp [ints]
theorem C_ints {w : World} {B : Nat} {A : Option Addr} {n : Nat} {pl : List Nat} (h : Reads w B 1 A n (Pgs pl)) (hn : n ≤ 9223372036854775807) : Kd.C (Kd.int .u32) w A (ints pl).length (ints pl) := by
  have hl : pl.length = n := by have := h.1; rw [Pgs_length] at this; omega
  refine ⟨rfl, by rw [ints_length]; omega, fun h0 => ?_⟩
  rw [ints_length] at h0
  obtain ⟨ad, e, _, hc⟩ := h.2 (by omega)
  refine ⟨ad, e, fun j p hj => ?_⟩
  simp only [ints, List.getElem?_map, Option.map_eq_some_iff] at hj
  obtain ⟨x, hx, rfl⟩ := hj
  refine ⟨[.int .u32 (x : Int)], rfl, rfl, fun i u hu => ?_⟩
  have hi := (List.getElem?_eq_some_iff.1 hu).1
  obtain rfl : i = 0 := by simpa using hi
  cases hu
  rw [show j * (Kd.int IntKind.u32).sz + 0 = j from (by show j * 1 + 0 = j; omega)]
  exact hc j _ (by simp [Pgs, hx])
theorem ints_C {w : World} {A : Option Addr} {n : Nat} {pl : List Nat} (h : Kd.C (Kd.int .u32) w A n (ints pl)) : Reads w w.heap.size 1 A n (Pgs pl) := by
  obtain ⟨h1, h2, h3⟩ := h
  rw [ints_length] at h1
  refine ⟨by rw [Pgs_length]; omega, fun hn => ?_⟩
  obtain ⟨ad, e, hc⟩ := h3 hn
  have key : ∀ j u, (Pgs pl)[j]? = some u → w.cell? (ad.add j) = some u := fun j u hu => by
    simp only [Pgs, List.getElem?_map, Option.map_eq_some_iff] at hu
    obtain ⟨x, hx, rfl⟩ := hu
    obtain ⟨c, hcl, hk, hcc⟩ := hc j (x : Int) (by simp [ints, hx])
    have hk : c = [.int .u32 (x : Int)] := hk
    subst hk
    have := hcc 0 _ rfl
    rwa [show j * (Kd.int IntKind.u32).sz + 0 = j from (by show j * 1 + 0 = j; omega)] at this
  refine ⟨ad, e, ?_, key⟩
  have h0 := key 0 _ (List.getElem?_eq_getElem (by rw [Pgs_length]; omega))
  have := World.block_lt_of_cell? w _ h0
  rwa [block_of_add] at this
theorem Recs.keep {w w' : World} {B : Nat} {A : Option Addr} {n : Nat} {rs : List FRc} (h : Recs w B A n rs) (hk : ∀ p : Addr, p.block < B → w'.cell? p = w.cell? p) : Recs w' B A n rs :=
  ⟨h.1, fun i r hi => by
    obtain ⟨ad, Ap, np, cp, h1, h2, h3, h4, h5⟩ := h.2 i r hi
    exact ⟨ad, Ap, np, cp, h1, h2, (hk _ h2).trans h3, (hk _ (by rw [block_of_add]; exact h2)).trans h4, h5.keep hk⟩⟩
theorem Caps.keep {w w' : World} {B : Nat} {A : Option Addr} {n c : Nat} {rs : List FRc} (h : Caps w A n c rs) (hr : Recs w B A n rs) (hk : ∀ p : Addr, p.block < B → w'.cell? p = w.cell? p) : Caps w' A n c rs :=
  ⟨h.1, fun i r hi => by
    obtain ⟨ad, Ap, np, cp, h1, h2, h3⟩ := h.2 i r hi
    obtain ⟨ad', Ap', np', cp', g1, g2, _⟩ := hr.2 i r hi
    rw [h1] at g1
    cases g1
    exact ⟨ad, Ap, np, cp, h1, (hk _ (by rw [block_of_add]; exact g2)).trans h2, h3⟩⟩
theorem getD_map {α β : Type} (f : α → β) (xs : List α) (i : Nat) (z : β) {x : α} (h : xs[i]? = some x) : (xs.map f).getD i z = f x := by
  simp [List.getD, h]
theorem wrap_up {i : Nat} (h : i ≤ 9223372036854775806) : wrap64 ((i : Int) + 1) = ((i + 1 : Nat) : Int) := by unfold wrap64; omega

/-! records as Raw -/
def sRaw (r : FRc) : S84 := ⟨(r.1 : Int), ints r.2⟩
theorem C_Raw {w : World} {B : Nat} {A : Option Addr} {n c : Nat} {rs : List FRc} (h : Recs w B A n rs) (hc : Caps w A n c rs) : Kd.C k84 w A (rs.map sRaw).length (rs.map sRaw) := by
  have hl := h.1
  refine ⟨rfl, by rw [List.length_map]; have := hc.1; omega, fun h0 => ?_⟩
  rw [List.length_map] at h0
  obtain ⟨_, ad, _, _, _, _, e, _⟩ := h.at_ (i := 0) (by omega)
  refine ⟨ad, e, fun j p hj => ?_⟩
  simp only [List.getElem?_map, Option.map_eq_some_iff] at hj
  obtain ⟨r, hr, rfl⟩ := hj
  obtain ⟨ad', Ap, np, cp, e', hb, h1, h2, h3⟩ := h.2 j r hr
  obtain ⟨ad2, Ap2, np2, cp2, e2, g1, g2, g3⟩ := hc.2 j r hr
  rw [e] at e' e2
  cases e'
  cases e2
  rw [h2] at g1
  cases g1
  have hnl : r.2.length = np := by have := h3.1; rw [Pgs_length] at this; omega
  have hi := C_ints h3 (by omega)
  have hm := k84_mk w (sRaw r) (A1 := Ap) (c1 := cp) (by show (ints r.2).length ≤ cp; rw [ints_length]; omega) hi
  refine ⟨_, rfl, hm, fun i u hu => ?_⟩
  have hil := (List.getElem?_eq_some_iff.1 hu).1
  have hil : i < 2 := hil
  show w.cell? (ad.add (j * 2 + i)) = some u
  rw [← add_of_add]
  rcases (by omega : i = 0 ∨ i = 1) with rfl | rfl
  · cases hu
    rw [Addr.add_zero']
    exact h1
  · cases hu
    rw [h2]
    show some (Value.slice Ap np cp) = some (Value.slice Ap (ints r.2).length cp)
    rw [ints_length, hnl]
theorem rd_Raw (rs : List FRc) {i : Nat} {r : FRc} (h : rs[i]? = some r) : rd_T84 (rs.map sRaw) (i : Int) = sRaw r := by
  unfold rd_T84
  rw [Int.toNat_natCast]
  exact getD_map _ _ _ _ h

/-! records as Rec -/
def sRec (r : FRc) : S101 := ⟨(r.1 : Int), ints r.2⟩
theorem C_Rec {w : World} {B : Nat} {A : Option Addr} {n c : Nat} {rs : List FRc} (h : Recs w B A n rs) (hc : Caps w A n c rs) : Kd.C k101 w A (rs.map sRec).length (rs.map sRec) := by
  have hl := h.1
  refine ⟨rfl, by rw [List.length_map]; have := hc.1; omega, fun h0 => ?_⟩
  rw [List.length_map] at h0
  obtain ⟨_, ad, _, _, _, _, e, _⟩ := h.at_ (i := 0) (by omega)
  refine ⟨ad, e, fun j p hj => ?_⟩
  simp only [List.getElem?_map, Option.map_eq_some_iff] at hj
  obtain ⟨r, hr, rfl⟩ := hj
  obtain ⟨ad', Ap, np, cp, e', hb, h1, h2, h3⟩ := h.2 j r hr
  obtain ⟨ad2, Ap2, np2, cp2, e2, g1, g2, g3⟩ := hc.2 j r hr
  rw [e] at e' e2
  cases e'
  cases e2
  rw [h2] at g1
  cases g1
  have hnl : r.2.length = np := by have := h3.1; rw [Pgs_length] at this; omega
  have hi := C_ints h3 (by omega)
  have hm := k101_mk w (sRec r) (A1 := Ap) (c1 := cp) (by show (ints r.2).length ≤ cp; rw [ints_length]; omega) hi
  refine ⟨_, rfl, hm, fun i u hu => ?_⟩
  have hil := (List.getElem?_eq_some_iff.1 hu).1
  have hil : i < 2 := hil
  show w.cell? (ad.add (j * 2 + i)) = some u
  rw [← add_of_add]
  rcases (by omega : i = 0 ∨ i = 1) with rfl | rfl
  · cases hu
    rw [Addr.add_zero']
    exact h1
  · cases hu
    rw [h2]
    show some (Value.slice Ap np cp) = some (Value.slice Ap (ints r.2).length cp)
    rw [ints_length, hnl]
theorem recs_Rec {w : World} {A : Option Addr} {n c : Nat} {rs : List FRc} (h : Kd.C k101 w A n (rs.map sRec)) : Recs w w.heap.size A n rs := by
  obtain ⟨h1, h2, h3⟩ := h
  rw [List.length_map] at h1
  refine ⟨h1, fun i r hi => ?_⟩
  obtain ⟨ad, e, hc⟩ := h3 (by have := (List.getElem?_eq_some_iff.1 hi).1; omega)
  obtain ⟨cs, hcl, hk, hcc⟩ := hc i (sRec r) (by simp [hi])
  obtain ⟨A1, c1, rfl, hle, hC⟩ := k101_open hk
  have q0 : w.cell? (ad.add (i * 2 + 0)) = some (.int .u64 (r.1 : Int)) := hcc 0 _ rfl
  have q1 : w.cell? (ad.add (i * 2 + 1)) = some (.slice A1 (ints r.2).length c1) := hcc 1 _ rfl
  rw [ints_length] at q1
  have hb := World.block_lt_of_cell? w _ q0
  rw [block_of_add] at hb
  have hC : Kd.C (Kd.int .u32) w A1 (ints r.2).length (ints r.2) := hC
  rw [ints_length] at hC
  exact ⟨ad, A1, r.2.length, c1, e, by rw [block_of_add]; exact hb, q0, by rw [add_of_add]; exact q1, ints_C hC⟩
theorem rd_Rec (rs : List FRc) {i : Nat} {r : FRc} (h : rs[i]? = some r) : rd_T101 (rs.map sRec) (i : Int) = sRec r := by
  unfold rd_T101
  rw [Int.toNat_natCast]
  exact getD_map _ _ _ _ h

/-! records as Ref -/
def sRef (r : FRc) : S139 := ⟨(r.1 : Int), ints r.2⟩
theorem C_Ref {w : World} {B : Nat} {A : Option Addr} {n c : Nat} {rs : List FRc} (h : Recs w B A n rs) (hc : Caps w A n c rs) : Kd.C k139 w A (rs.map sRef).length (rs.map sRef) := by
  have hl := h.1
  refine ⟨rfl, by rw [List.length_map]; have := hc.1; omega, fun h0 => ?_⟩
  rw [List.length_map] at h0
  obtain ⟨_, ad, _, _, _, _, e, _⟩ := h.at_ (i := 0) (by omega)
  refine ⟨ad, e, fun j p hj => ?_⟩
  simp only [List.getElem?_map, Option.map_eq_some_iff] at hj
  obtain ⟨r, hr, rfl⟩ := hj
  obtain ⟨ad', Ap, np, cp, e', hb, h1, h2, h3⟩ := h.2 j r hr
  obtain ⟨ad2, Ap2, np2, cp2, e2, g1, g2, g3⟩ := hc.2 j r hr
  rw [e] at e' e2
  cases e'
  cases e2
  rw [h2] at g1
  cases g1
  have hnl : r.2.length = np := by have := h3.1; rw [Pgs_length] at this; omega
  have hi := C_ints h3 (by omega)
  have hm := k139_mk w (sRef r) (A1 := Ap) (c1 := cp) (by show (ints r.2).length ≤ cp; rw [ints_length]; omega) hi
  refine ⟨_, rfl, hm, fun i u hu => ?_⟩
  have hil := (List.getElem?_eq_some_iff.1 hu).1
  have hil : i < 2 := hil
  show w.cell? (ad.add (j * 2 + i)) = some u
  rw [← add_of_add]
  rcases (by omega : i = 0 ∨ i = 1) with rfl | rfl
  · cases hu
    rw [Addr.add_zero']
    exact h1
  · cases hu
    rw [h2]
    show some (Value.slice Ap np cp) = some (Value.slice Ap (ints r.2).length cp)
    rw [ints_length, hnl]
theorem recs_Ref {w : World} {A : Option Addr} {n c : Nat} {rs : List FRc} (h : Kd.C k139 w A n (rs.map sRef)) : Recs w w.heap.size A n rs := by
  obtain ⟨h1, h2, h3⟩ := h
  rw [List.length_map] at h1
  refine ⟨h1, fun i r hi => ?_⟩
  obtain ⟨ad, e, hc⟩ := h3 (by have := (List.getElem?_eq_some_iff.1 hi).1; omega)
  obtain ⟨cs, hcl, hk, hcc⟩ := hc i (sRef r) (by simp [hi])
  obtain ⟨A1, c1, rfl, hle, hC⟩ := k139_open hk
  have q0 : w.cell? (ad.add (i * 2 + 0)) = some (.int .u64 (r.1 : Int)) := hcc 0 _ rfl
  have q1 : w.cell? (ad.add (i * 2 + 1)) = some (.slice A1 (ints r.2).length c1) := hcc 1 _ rfl
  rw [ints_length] at q1
  have hb := World.block_lt_of_cell? w _ q0
  rw [block_of_add] at hb
  have hC : Kd.C (Kd.int .u32) w A1 (ints r.2).length (ints r.2) := hC
  rw [ints_length] at hC
  exact ⟨ad, A1, r.2.length, c1, e, by rw [block_of_add]; exact hb, q0, by rw [add_of_add]; exact q1, ints_C hC⟩
theorem rd_Ref (rs : List FRc) {i : Nat} {r : FRc} (h : rs[i]? = some r) : rd_T139 (rs.map sRef) (i : Int) = sRef r := by
  unfold rd_T139
  rw [Int.toNat_natCast]
  exact getD_map _ _ _ _ h

theorem rd_ints (pl : List Nat) {i : Nat} {x : Nat} (h : pl[i]? = some x) : rd (ints pl) (i : Int) = (x : Int) := by
  unfold rd
  rw [Int.toNat_natCast]
  exact getD_map _ _ _ _ h

theorem caps_Rec {w : World} {A : Option Addr} {n : Nat} {rs : List FRc} (h : Kd.C k101 w A n (rs.map sRec)) {i : Nat} {r : FRc} (hi : rs[i]? = some r) : ∃ ad A1 c1, A = some ad ∧ w.cell? ((ad.add (i * 2)).add 1) = some (.slice A1 r.2.length c1) ∧ r.2.length ≤ c1 ∧ (r.2 ≠ [] → A1 ≠ none) := by
  obtain ⟨h1, h2, h3⟩ := h
  rw [List.length_map] at h1
  obtain ⟨ad, e, hc⟩ := h3 (by have := (List.getElem?_eq_some_iff.1 hi).1; omega)
  obtain ⟨cs, hcl, hk, hcc⟩ := hc i (sRec r) (by simp [hi])
  obtain ⟨A1, c1, rfl, hle, hC⟩ := k101_open hk
  have q1 : w.cell? (ad.add (i * 2 + 1)) = some (.slice A1 (ints r.2).length c1) := hcc 1 _ rfl
  have hle : (ints r.2).length ≤ c1 := hle
  rw [ints_length] at q1 hle
  have hC : Kd.C (Kd.int .u32) w A1 (ints r.2).length (ints r.2) := hC
  rw [ints_length] at hC
  refine ⟨ad, A1, c1, e, by rw [add_of_add]; exact q1, hle, fun hne => ?_⟩
  obtain ⟨ad1, e1, _⟩ := hC.2.2 (List.length_pos_iff.2 hne)
  rw [e1]
  simp
theorem hcp_Rec {w : World} {A : Option Addr} {n : Nat} {rs : List FRc} (h : Kd.C k101 w A n (rs.map sRec)) (hne : ∀ r ∈ rs, r.2 ≠ []) (W : World) (hW : Below w.heap.size w W) : ∀ i r ad Ap np cp, rs[i]? = some r → A = some ad → RcAt W w.heap.size (ad.add (i * 2)) r Ap np cp → np ≤ cp ∧ (Ap = none → cp = 0) := by
  intro i r ad Ap np cp hi hA hR
  obtain ⟨ad', A1, c1, e, q1, hle, hn1⟩ := caps_Rec h hi
  rw [hA] at e
  injection e with e
  subst e
  have hb := hR.1
  have q2 := (hW.cell (p := (ad.add (i * 2)).add 1) (by rw [block_of_add]; exact hb)).trans q1
  rw [hR.2.2.1] at q2
  injection q2 with q2
  injection q2 with z1 z2 z3
  subst z1 z2 z3
  exact ⟨hle, fun e => absurd e (hn1 (hne r (List.mem_of_getElem? hi)))⟩

/-! few -/
theorem few_l0 (rs : List FRc) (hn : rs.length ≤ 9223372036854775807) : ∀ (d i : Nat), rs.length - i = d → i ≤ rs.length →
    ∃ k b, rubricatorlaw08_few.l0 k (rs.map sRaw) (i : Int) = some b ∧ (b = true → rs.length ≤ 10 ∧ ∀ r ∈ rs.drop i, r.2.length ≤ 30) := by
  intro d
  induction d with
  | zero =>
    intro i hd hi
    refine ⟨1, decide ((rs.length : Int) ≤ 10), ?_, fun hb => ⟨by have := of_decide_eq_true hb; omega, ?_⟩⟩
    · simp only [rubricatorlaw08_few.l0]
      rw [if_neg (by rw [List.length_map]; omega), List.length_map]
    · rw [List.drop_of_length_le (by omega)]
      simp
  | succ d ih =>
    intro i hd hi
    obtain ⟨r, hr⟩ : ∃ r, rs[i]? = some r := ⟨_, List.getElem?_eq_getElem (by omega)⟩
    have hdr : rs.drop i = r :: rs.drop (i + 1) := by
      obtain ⟨hi, rfl⟩ := List.getElem?_eq_some_iff.1 hr
      exact List.drop_eq_getElem_cons hi
    by_cases h30 : 30 < r.2.length
    · refine ⟨1, false, ?_, by simp⟩
      simp only [rubricatorlaw08_few.l0]
      rw [if_pos (by rw [List.length_map]; omega), if_pos (by omega), rd_Raw _ hr, if_pos (by show ((ints r.2).length : Int) > 30; rw [ints_length]; omega)]
    · obtain ⟨k, b, hk, hb⟩ := ih (i + 1) (by omega) (by omega)
      refine ⟨k + 1, b, ?_, fun h => ⟨(hb h).1, fun x hx => ?_⟩⟩
      · simp only [rubricatorlaw08_few.l0]
        rw [if_pos (by rw [List.length_map]; omega), if_pos (by omega), rd_Raw _ hr, if_neg (by show ¬ ((ints r.2).length : Int) > 30; rw [ints_length]; omega), wrap_up (by omega)]
        exact hk
      · rw [hdr] at hx
        rcases List.mem_cons.1 hx with rfl | hx
        · omega
        · exact (hb h).2 x hx
theorem few_any (w : World) (B : Nat) (A : Option Addr) (n c : Nat) (rs : List FRc) (h : Recs w B A n rs) (hc : Caps w A n c rs) :
    Calls Try.prog 38 #[.slice A n c] w fun e w' => ∃ b, e = .returned (.bool b) ∧ Hid (b = true → rs.length ≤ 10 ∧ ∀ r ∈ rs, r.2.length ≤ 30) ∧ Below w.heap.size w w' := by
  have hl := h.1
  obtain ⟨k, b, hk, hb⟩ := few_l0 rs (by have := hc.1; omega) _ 0 rfl (Nat.zero_le _)
  have := rubricatorlaw08_few.calls k A c (rs.map sRaw) b w (C_Raw h hc) (by rw [List.length_map, hl]; exact hc.1.1) hk
  rw [List.length_map, hl] at this
  refine this.mono ?_
  rintro e w' ⟨rfl, hd⟩
  exact ⟨b, rfl, Lib.hid (by simpa using hb), hd.below⟩

/-! records -/
theorem records_l1 (X : List FRc) (hX : X.length ≤ 4398046511103) {i : Nat} {r : FRc} (hr : X[i]? = some r) (hrl : r.2.length ≤ 35184372088831) (x4 : List S101) (x5 : List S139) (h4 : x4.length < 4398046511104) (h5 : x5.length < 4398046511104) {R : List S101 × List S139}
    (hk : ∃ k, rubricatorlaw08_records.l0 k (X.map sRaw) (x4 ++ [sRec r]) (x5 ++ [sRef r]) ((i + 1 : Nat) : Int) = some R) : ∀ (d j : Nat), r.2.length - j = d → j ≤ r.2.length →
    ∃ k, rubricatorlaw08_records.l1 k (X.map sRaw) x4 x5 (i : Int) (ints (r.2.take j)) (j : Int) = some R := by
  have hi := (List.getElem?_eq_some_iff.1 hr).1
  intro d
  induction d with
  | zero =>
    intro j hd hj
    obtain ⟨k, hk⟩ := hk
    refine ⟨k + 1, ?_⟩
    simp only [rubricatorlaw08_records.l1]
    rw [if_pos (by omega), if_pos (by rw [List.length_map]; omega), rd_Raw _ hr, if_neg (by show ¬ (j : Int) < ((ints r.2).length : Int); rw [ints_length]; omega), if_pos h4, if_pos h5, wrap_up (by omega), List.take_of_length_le (by omega)]
    exact hk
  | succ d ih =>
    intro j hd hj
    obtain ⟨x, hx⟩ : ∃ x, r.2[j]? = some x := ⟨_, List.getElem?_eq_getElem (by omega)⟩
    obtain ⟨k, hk⟩ := ih (j + 1) (by omega) (by omega)
    refine ⟨k + 1, ?_⟩
    simp only [rubricatorlaw08_records.l1]
    rw [if_pos (by omega), if_pos (by rw [List.length_map]; omega), rd_Raw _ hr, if_pos (by show (j : Int) < ((ints r.2).length : Int); rw [ints_length]; omega), if_pos (by omega), if_pos (by rw [ints_length, List.length_take]; omega), wrap_up (by omega)]
    have e : ints (r.2.take j) ++ [rd ((sRaw r).f1) (j : Int)] = ints (r.2.take (j + 1)) := by
      rw [rtake_succ hx]
      show ints (r.2.take j) ++ [rd (ints r.2) (j : Int)] = _
      rw [rd_ints _ hx]
      simp [ints]
    rw [e]
    exact hk
theorem records_l0 (X : List FRc) (hX : X.length ≤ 4398046511103) (hrl : ∀ r ∈ X, r.2.length ≤ 35184372088831) : ∀ (d i : Nat), X.length - i = d → i ≤ X.length →
    ∃ k, rubricatorlaw08_records.l0 k (X.map sRaw) ((X.take i).map sRec) ((X.take i).map sRef) (i : Int) = some (X.map sRec, X.map sRef) := by
  intro d
  induction d with
  | zero =>
    intro i hd hi
    refine ⟨1, ?_⟩
    simp only [rubricatorlaw08_records.l0]
    rw [if_neg (by rw [List.length_map]; omega), List.take_of_length_le (by omega)]
  | succ d ih =>
    intro i hd hi
    obtain ⟨r, hr⟩ : ∃ r, X[i]? = some r := ⟨_, List.getElem?_eq_getElem (by omega)⟩
    have hh := ih (i + 1) (by omega) (by omega)
    rw [rtake_succ hr, List.map_append, List.map_append] at hh
    obtain ⟨k, hk⟩ := records_l1 X hX hr (hrl r (List.mem_of_getElem? hr)) _ _ (by rw [List.length_map, List.length_take]; omega) (by rw [List.length_map, List.length_take]; omega) hh _ 0 rfl (Nat.zero_le _)
    refine ⟨k + 1, ?_⟩
    simp only [rubricatorlaw08_records.l0]
    rw [if_pos (by rw [List.length_map]; omega)]
    exact hk
theorem records_any (w : World) (A : Option Addr) (n c : Nat) (rs : List FRc) (h : Recs w w.heap.size A n rs) (hc : Caps w A n c rs) (hn : n ≤ 4398046511103) (hrl : ∀ r ∈ rs, r.2.length ≤ 35184372088831) :
    Calls Try.prog 39 #[.slice A n c] w fun e w' => ∃ A1 c1 A2 c2, e = .returned (.tuple #[.slice A1 n c1, .slice A2 n c2]) ∧ Kd.C k101 w' A1 n (rs.map sRec) ∧ n ≤ c1 ∧ Kd.C k139 w' A2 n (rs.map sRef) ∧ n ≤ c2 ∧ Below w.heap.size w w' := by
  have hl := h.1
  obtain ⟨k, hk⟩ := records_l0 rs (by omega) hrl _ 0 rfl (Nat.zero_le _)
  have hV : Kd.V k84 84 w w.heap.size (fun k => k < w.heap.size) (.slice A (rs.map sRaw).length c) (rs.map sRaw) := by
    refine Kd.V_mk (by rw [List.length_map, hl]; exact hc.1.1) fun W' hW => ?_
    have hkeep : ∀ p : Addr, p.block < w.heap.size → W'.cell? p = w.cell? p := fun p hp => World.cell?_of_block (hW p.block hp hp)
    have h2 := C_Raw (h.keep hkeep) (hc.keep h hkeep)
    exact h2
  have := rubricatorlaw08_records.calls k (fun k => k < w.heap.size) A c (rs.map sRaw) (rs.map sRec) (rs.map sRef) w hV hk
  rw [List.length_map, hl] at this
  refine this.mono ?_
  rintro e w' ⟨v0, v1, rfl, hN0, hN1, hb⟩
  obtain ⟨A1, c1, rfl, hl1, hC1⟩ := Kd.N_reads hN0
  obtain ⟨A2, c2, rfl, hl2, hC2⟩ := Kd.N_reads hN1
  rw [List.length_map, hl] at hl1 hC1 hl2 hC2
  rw [List.length_map, List.length_map, hl]
  exact ⟨A1, c1, A2, c2, rfl, hC1, hl1, hC2, hl2, hb⟩

/-! same -/
theorem same_l1 (X : List FRc) (hX : X.length ≤ 1000000000000) {i : Nat} {r : FRc} (hr : X[i]? = some r) (hrl : r.2.length ≤ 30000000000000)
    (hk : ∃ k, rubricatorlaw08_same.l0 k (X.map sRec) (X.map sRef) ((i + 1 : Nat) : Int) = some true) : ∀ (d j : Nat), r.2.length - j = d → j ≤ r.2.length →
    ∃ k, rubricatorlaw08_same.l1 k (X.map sRec) (X.map sRef) (i : Int) (j : Int) = some true := by
  have hi := (List.getElem?_eq_some_iff.1 hr).1
  intro d
  induction d with
  | zero =>
    intro j hd hj
    obtain ⟨k, hk⟩ := hk
    refine ⟨k + 1, ?_⟩
    simp only [rubricatorlaw08_same.l1]
    rw [if_pos (by omega), if_pos (by rw [List.length_map]; omega), rd_Rec _ hr, if_neg (by show ¬ (j : Int) < ((ints r.2).length : Int); rw [ints_length]; omega), wrap_up (by omega)]
    exact hk
  | succ d ih =>
    intro j hd hj
    obtain ⟨x, hx⟩ : ∃ x, r.2[j]? = some x := ⟨_, List.getElem?_eq_getElem (by omega)⟩
    obtain ⟨k, hk⟩ := ih (j + 1) (by omega) (by omega)
    refine ⟨k + 1, ?_⟩
    simp only [rubricatorlaw08_same.l1]
    have c1 : (j : Int) < ((ints r.2).length : Int) := by rw [ints_length]; omega
    rw [if_pos (by omega), if_pos (by rw [List.length_map]; omega), rd_Rec _ hr, rd_Ref _ hr, if_pos (show (j : Int) < (((sRec r).f1).length : Int) from c1), if_pos (by omega), if_pos (by rw [List.length_map]; omega), if_pos (show (j : Int) < (((sRef r).f1).length : Int) from c1), if_pos (show rd ((sRec r).f1) (j : Int) = rd ((sRef r).f1) (j : Int) from rfl), wrap_up (by omega)]
    exact hk
theorem same_l0 (X : List FRc) (hX : X.length ≤ 1000000000000) (hrl : ∀ r ∈ X, r.2.length ≤ 30000000000000) : ∀ (d i : Nat), X.length - i = d → i ≤ X.length →
    ∃ k, rubricatorlaw08_same.l0 k (X.map sRec) (X.map sRef) (i : Int) = some true := by
  intro d
  induction d with
  | zero =>
    intro i hd hi
    refine ⟨1, ?_⟩
    simp only [rubricatorlaw08_same.l0]
    rw [if_neg (by rw [List.length_map]; omega)]
  | succ d ih =>
    intro i hd hi
    obtain ⟨r, hr⟩ : ∃ r, X[i]? = some r := ⟨_, List.getElem?_eq_getElem (by omega)⟩
    obtain ⟨k, hk⟩ := same_l1 X hX hr (hrl r (List.mem_of_getElem? hr)) (ih (i + 1) (by omega) (by omega)) _ 0 rfl (Nat.zero_le _)
    refine ⟨k + 2, ?_⟩
    simp only [rubricatorlaw08_same.l0]
    have hbne : ((((sRec r).f1).length : Int) != (((sRef r).f1).length : Int)) = false := by
      show (((ints r.2).length : Int) != ((ints r.2).length : Int)) = false
      simp
    rw [if_pos (by rw [List.length_map]; omega), if_pos (by omega), if_pos (by rw [List.length_map]; omega), rd_Rec _ hr, rd_Ref _ hr, if_pos (show (sRec r).f0 = (sRef r).f0 from rfl), hbne]
    simp only [rubricatorlaw08_same.j1]
    rw [if_neg (by simp)]
    exact hk
theorem same_any (w : World) (A A' : Option Addr) (n c c' : Nat) (rs : List FRc) (h : Kd.C k101 w A n (rs.map sRec)) (hc : n ≤ c) (h' : Kd.C k139 w A' n (rs.map sRef)) (hc' : n ≤ c') (hn : n ≤ 1000000000000) (hrl : ∀ r ∈ rs, r.2.length ≤ 30000000000000) :
    Calls Try.prog 50 #[.slice A n c, .slice A' n c'] w fun e w' => e = .returned (.bool true) ∧ Below w.heap.size w w' := by
  have hl : rs.length = n := by have := h.1; rw [List.length_map] at this; exact this
  subst hl
  obtain ⟨k, hk⟩ := same_l0 rs hn hrl _ 0 rfl (Nat.zero_le _)
  have hf : rubricatorlaw08_same.f k (rs.map sRec) (rs.map sRef) = some true := by
    unfold rubricatorlaw08_same.f
    rw [if_pos (by rw [List.length_map, List.length_map])]
    exact hk
  have := rubricatorlaw08_same.calls k A c (rs.map sRec) A' c' (rs.map sRef) true w (by rw [List.length_map]; exact h) (by rw [List.length_map]; exact hc) (by rw [List.length_map]; exact h') (by rw [List.length_map]; exact hc') hf
  rw [List.length_map, List.length_map] at this
  refine this.mono ?_
  rintro e w' ⟨rfl, hd⟩
  exact ⟨rfl, hd.below⟩

end Go.Proofs.Ythijobbhpbklmaa
