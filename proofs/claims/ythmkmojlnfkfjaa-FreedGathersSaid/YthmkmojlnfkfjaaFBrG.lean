/- The statements' helpers over records, and the references' Flat and Gather (layer 10): what they answer. The walks are printed by the kit's printer. -/
import Derived.Test.YthmkmojlnfkfjaaFRow
import Derived.Test.YthmkmojlnfkfjaaFPlain
import Derived.Test.YthmkmojlnfkfjaaPFreedGathersx2
import Derived.Test.YthmkmojlnfkfjaaPFreedGathersx3
import Derived.Test.YthmkmojlnfkfjaaPFreedGathersx4
import Derived.Test.YthmkmojlnfkfjaaPFreedGathersx5
import Derived.Test.YthmkmojlnfkfjaaPFreedGathersx6
namespace Go.Proofs.Ythmkmojlnfkfjaa
open Go.RowKit Go.Proofs.YthmkmojlnfkfjaaW.PrintWords Go.Proofs.Ythmkmojlnfkfjaa.PFreedGathers
set_option linter.unusedVariables false
set_option linter.unusedSimpArgs false

def ints (pl : List Nat) : List Int := pl.map fun (x : Nat) => (x : Int)
theorem ints_length (pl : List Nat) : (ints pl).length = pl.length := by simp [ints]
theorem Drawn0.bel {w w' : World} (h : Drawn0 w w') : Below w.heap.size w w' := h.below
theorem C_ints {w : World} {B : Nat} {A : Option Addr} {n : Nat} {pl : List Nat} (h : Reads w B 1 A n (Pgs pl)) (hn : n ≤ 9223372036854775807) : Kd.C (Kd.int .u32) w A (ints pl).length (ints pl) := by
  have hl : pl.length = n := by have := h.1; rw [Pgs_length] at this; omega
  refine ⟨rfl, by rw [ints_length]; omega, fun h0 => ?_⟩
  rw [ints_length] at h0
  obtain ⟨ad, e, _, hc⟩ := h.2 (by omega)
  refine ⟨ad, e, fun j p hj => ?_⟩
  simp only [ints, List.getElem?_map, Option.map_eq_some_iff] at hj
  obtain ⟨x, hx, rfl⟩ := hj
  refine ⟨[.int .u32 (x : Int)], rfl, rfl, fun i u hu => ?_⟩
  have hi := (List.getElem?_eq_some_iff.1 hu).1
  obtain rfl : i = 0 := by simpa using hi
  cases hu
  rw [show j * (Kd.int IntKind.u32).sz + 0 = j from (by show j * 1 + 0 = j; omega)]
  exact hc j _ (by simp [Pgs, hx])
theorem ints_C {w : World} {A : Option Addr} {n : Nat} {pl : List Nat} (h : Kd.C (Kd.int .u32) w A n (ints pl)) : Reads w w.heap.size 1 A n (Pgs pl) := by
  obtain ⟨h1, h2, h3⟩ := h
  rw [ints_length] at h1
  refine ⟨by rw [Pgs_length]; omega, fun hn => ?_⟩
  obtain ⟨ad, e, hc⟩ := h3 hn
  have key : ∀ j u, (Pgs pl)[j]? = some u → w.cell? (ad.add j) = some u := fun j u hu => by
    simp only [Pgs, List.getElem?_map, Option.map_eq_some_iff] at hu
    obtain ⟨x, hx, rfl⟩ := hu
    obtain ⟨c, hcl, hk, hcc⟩ := hc j (x : Int) (by simp [ints, hx])
    have hk : c = [.int .u32 (x : Int)] := hk
    subst hk
    have := hcc 0 _ rfl
    rwa [show j * (Kd.int IntKind.u32).sz + 0 = j from (by show j * 1 + 0 = j; omega)] at this
  refine ⟨ad, e, ?_, key⟩
  have h0 := key 0 _ (List.getElem?_eq_getElem (by rw [Pgs_length]; omega))
  have := World.block_lt_of_cell? w _ h0
  rwa [block_of_add] at this
theorem Recs.keep {w w' : World} {B : Nat} {A : Option Addr} {n : Nat} {rs : List FRc} (h : Recs w B A n rs) (hk : ∀ p : Addr, p.block < B → w'.cell? p = w.cell? p) : Recs w' B A n rs :=
  ⟨h.1, fun i r hi => by
    obtain ⟨ad, Ap, np, cp, h1, h2, h3, h4, h5⟩ := h.2 i r hi
    exact ⟨ad, Ap, np, cp, h1, h2, (hk _ h2).trans h3, (hk _ (by rw [block_of_add]; exact h2)).trans h4, h5.keep hk⟩⟩
theorem Caps.keep {w w' : World} {B : Nat} {A : Option Addr} {n c : Nat} {rs : List FRc} (h : Caps w A n c rs) (hr : Recs w B A n rs) (hk : ∀ p : Addr, p.block < B → w'.cell? p = w.cell? p) : Caps w' A n c rs :=
  ⟨h.1, fun i r hi => by
    obtain ⟨ad, Ap, np, cp, h1, h2, h3⟩ := h.2 i r hi
    obtain ⟨ad', Ap', np', cp', g1, g2, _⟩ := hr.2 i r hi
    rw [h1] at g1
    cases g1
    exact ⟨ad, Ap, np, cp, h1, (hk _ (by rw [block_of_add]; exact g2)).trans h2, h3⟩⟩
theorem getD_map {α β : Type} (f : α → β) (xs : List α) (i : Nat) (z : β) {x : α} (h : xs[i]? = some x) : (xs.map f).getD i z = f x := by
  simp [List.getD, h]
theorem wrap_up {i : Nat} (h : i ≤ 9223372036854775806) : wrap64 ((i : Int) + 1) = ((i + 1 : Nat) : Int) := by unfold wrap64; omega

/-! records as Raw -/
def sRaw (r : FRc) : S88 := ⟨(r.1 : Int), ints r.2⟩
theorem C_Raw {w : World} {B : Nat} {A : Option Addr} {n c : Nat} {rs : List FRc} (h : Recs w B A n rs) (hc : Caps w A n c rs) : Kd.C k88 w A (rs.map sRaw).length (rs.map sRaw) := by
  have hl := h.1
  refine ⟨rfl, by rw [List.length_map]; have := hc.1; omega, fun h0 => ?_⟩
  rw [List.length_map] at h0
  obtain ⟨_, ad, _, _, _, _, e, _⟩ := h.at_ (i := 0) (by omega)
  refine ⟨ad, e, fun j p hj => ?_⟩
  simp only [List.getElem?_map, Option.map_eq_some_iff] at hj
  obtain ⟨r, hr, rfl⟩ := hj
  obtain ⟨ad', Ap, np, cp, e', hb, h1, h2, h3⟩ := h.2 j r hr
  obtain ⟨ad2, Ap2, np2, cp2, e2, g1, g2, g3⟩ := hc.2 j r hr
  rw [e] at e' e2
  cases e'
  cases e2
  rw [h2] at g1
  cases g1
  have hnl : r.2.length = np := by have := h3.1; rw [Pgs_length] at this; omega
  have hi := C_ints h3 (by omega)
  have hm := k88_mk w (sRaw r) (A1 := Ap) (c1 := cp) (by show (ints r.2).length ≤ cp; rw [ints_length]; omega) hi
  refine ⟨_, rfl, hm, fun i u hu => ?_⟩
  have hil := (List.getElem?_eq_some_iff.1 hu).1
  have hil : i < 2 := hil
  show w.cell? (ad.add (j * 2 + i)) = some u
  rw [← add_of_add]
  rcases (by omega : i = 0 ∨ i = 1) with rfl | rfl
  · cases hu
    rw [Addr.add_zero']
    exact h1
  · cases hu
    rw [h2]
    show some (Value.slice Ap np cp) = some (Value.slice Ap (ints r.2).length cp)
    rw [ints_length, hnl]
theorem recs_Raw {w : World} {A : Option Addr} {n c : Nat} {rs : List FRc} (h : Kd.C k88 w A n (rs.map sRaw)) : Recs w w.heap.size A n rs := by
  obtain ⟨h1, h2, h3⟩ := h
  rw [List.length_map] at h1
  refine ⟨h1, fun i r hi => ?_⟩
  obtain ⟨ad, e, hc⟩ := h3 (by have := (List.getElem?_eq_some_iff.1 hi).1; omega)
  obtain ⟨cs, hcl, hk, hcc⟩ := hc i (sRaw r) (by simp [hi])
  obtain ⟨A1, c1, rfl, hle, hC⟩ := k88_open hk
  have q0 : w.cell? (ad.add (i * 2 + 0)) = some (.int .u64 (r.1 : Int)) := hcc 0 _ rfl
  have q1 : w.cell? (ad.add (i * 2 + 1)) = some (.slice A1 (ints r.2).length c1) := hcc 1 _ rfl
  rw [ints_length] at q1
  have hb := World.block_lt_of_cell? w _ q0
  rw [block_of_add] at hb
  have hC : Kd.C (Kd.int .u32) w A1 (ints r.2).length (ints r.2) := hC
  rw [ints_length] at hC
  exact ⟨ad, A1, r.2.length, c1, e, by rw [block_of_add]; exact hb, q0, by rw [add_of_add]; exact q1, ints_C hC⟩
theorem rd_Raw (rs : List FRc) {i : Nat} {r : FRc} (h : rs[i]? = some r) : rd_T88 (rs.map sRaw) (i : Int) = sRaw r := by
  unfold rd_T88
  rw [Int.toNat_natCast]
  exact getD_map _ _ _ _ h

/-! records as Rec -/
def sRec (r : FRc) : S69 := ⟨(r.1 : Int), ints r.2⟩
theorem C_Rec {w : World} {B : Nat} {A : Option Addr} {n c : Nat} {rs : List FRc} (h : Recs w B A n rs) (hc : Caps w A n c rs) : Kd.C k69 w A (rs.map sRec).length (rs.map sRec) := by
  have hl := h.1
  refine ⟨rfl, by rw [List.length_map]; have := hc.1; omega, fun h0 => ?_⟩
  rw [List.length_map] at h0
  obtain ⟨_, ad, _, _, _, _, e, _⟩ := h.at_ (i := 0) (by omega)
  refine ⟨ad, e, fun j p hj => ?_⟩
  simp only [List.getElem?_map, Option.map_eq_some_iff] at hj
  obtain ⟨r, hr, rfl⟩ := hj
  obtain ⟨ad', Ap, np, cp, e', hb, h1, h2, h3⟩ := h.2 j r hr
  obtain ⟨ad2, Ap2, np2, cp2, e2, g1, g2, g3⟩ := hc.2 j r hr
  rw [e] at e' e2
  cases e'
  cases e2
  rw [h2] at g1
  cases g1
  have hnl : r.2.length = np := by have := h3.1; rw [Pgs_length] at this; omega
  have hi := C_ints h3 (by omega)
  have hm := k69_mk w (sRec r) (A1 := Ap) (c1 := cp) (by show (ints r.2).length ≤ cp; rw [ints_length]; omega) hi
  refine ⟨_, rfl, hm, fun i u hu => ?_⟩
  have hil := (List.getElem?_eq_some_iff.1 hu).1
  have hil : i < 2 := hil
  show w.cell? (ad.add (j * 2 + i)) = some u
  rw [← add_of_add]
  rcases (by omega : i = 0 ∨ i = 1) with rfl | rfl
  · cases hu
    rw [Addr.add_zero']
    exact h1
  · cases hu
    rw [h2]
    show some (Value.slice Ap np cp) = some (Value.slice Ap (ints r.2).length cp)
    rw [ints_length, hnl]
theorem recs_Rec {w : World} {A : Option Addr} {n c : Nat} {rs : List FRc} (h : Kd.C k69 w A n (rs.map sRec)) : Recs w w.heap.size A n rs := by
  obtain ⟨h1, h2, h3⟩ := h
  rw [List.length_map] at h1
  refine ⟨h1, fun i r hi => ?_⟩
  obtain ⟨ad, e, hc⟩ := h3 (by have := (List.getElem?_eq_some_iff.1 hi).1; omega)
  obtain ⟨cs, hcl, hk, hcc⟩ := hc i (sRec r) (by simp [hi])
  obtain ⟨A1, c1, rfl, hle, hC⟩ := k69_open hk
  have q0 : w.cell? (ad.add (i * 2 + 0)) = some (.int .u64 (r.1 : Int)) := hcc 0 _ rfl
  have q1 : w.cell? (ad.add (i * 2 + 1)) = some (.slice A1 (ints r.2).length c1) := hcc 1 _ rfl
  rw [ints_length] at q1
  have hb := World.block_lt_of_cell? w _ q0
  rw [block_of_add] at hb
  have hC : Kd.C (Kd.int .u32) w A1 (ints r.2).length (ints r.2) := hC
  rw [ints_length] at hC
  exact ⟨ad, A1, r.2.length, c1, e, by rw [block_of_add]; exact hb, q0, by rw [add_of_add]; exact q1, ints_C hC⟩
theorem rd_Rec (rs : List FRc) {i : Nat} {r : FRc} (h : rs[i]? = some r) : rd_T69 (rs.map sRec) (i : Int) = sRec r := by
  unfold rd_T69
  rw [Int.toNat_natCast]
  exact getD_map _ _ _ _ h

/-! records as Ref -/
def sRef (r : FRc) : S89 := ⟨(r.1 : Int), ints r.2⟩
theorem C_Ref {w : World} {B : Nat} {A : Option Addr} {n c : Nat} {rs : List FRc} (h : Recs w B A n rs) (hc : Caps w A n c rs) : Kd.C k89 w A (rs.map sRef).length (rs.map sRef) := by
  have hl := h.1
  refine ⟨rfl, by rw [List.length_map]; have := hc.1; omega, fun h0 => ?_⟩
  rw [List.length_map] at h0
  obtain ⟨_, ad, _, _, _, _, e, _⟩ := h.at_ (i := 0) (by omega)
  refine ⟨ad, e, fun j p hj => ?_⟩
  simp only [List.getElem?_map, Option.map_eq_some_iff] at hj
  obtain ⟨r, hr, rfl⟩ := hj
  obtain ⟨ad', Ap, np, cp, e', hb, h1, h2, h3⟩ := h.2 j r hr
  obtain ⟨ad2, Ap2, np2, cp2, e2, g1, g2, g3⟩ := hc.2 j r hr
  rw [e] at e' e2
  cases e'
  cases e2
  rw [h2] at g1
  cases g1
  have hnl : r.2.length = np := by have := h3.1; rw [Pgs_length] at this; omega
  have hi := C_ints h3 (by omega)
  have hm := k89_mk w (sRef r) (A1 := Ap) (c1 := cp) (by show (ints r.2).length ≤ cp; rw [ints_length]; omega) hi
  refine ⟨_, rfl, hm, fun i u hu => ?_⟩
  have hil := (List.getElem?_eq_some_iff.1 hu).1
  have hil : i < 2 := hil
  show w.cell? (ad.add (j * 2 + i)) = some u
  rw [← add_of_add]
  rcases (by omega : i = 0 ∨ i = 1) with rfl | rfl
  · cases hu
    rw [Addr.add_zero']
    exact h1
  · cases hu
    rw [h2]
    show some (Value.slice Ap np cp) = some (Value.slice Ap (ints r.2).length cp)
    rw [ints_length, hnl]
theorem recs_Ref {w : World} {A : Option Addr} {n c : Nat} {rs : List FRc} (h : Kd.C k89 w A n (rs.map sRef)) : Recs w w.heap.size A n rs := by
  obtain ⟨h1, h2, h3⟩ := h
  rw [List.length_map] at h1
  refine ⟨h1, fun i r hi => ?_⟩
  obtain ⟨ad, e, hc⟩ := h3 (by have := (List.getElem?_eq_some_iff.1 hi).1; omega)
  obtain ⟨cs, hcl, hk, hcc⟩ := hc i (sRef r) (by simp [hi])
  obtain ⟨A1, c1, rfl, hle, hC⟩ := k89_open hk
  have q0 : w.cell? (ad.add (i * 2 + 0)) = some (.int .u64 (r.1 : Int)) := hcc 0 _ rfl
  have q1 : w.cell? (ad.add (i * 2 + 1)) = some (.slice A1 (ints r.2).length c1) := hcc 1 _ rfl
  rw [ints_length] at q1
  have hb := World.block_lt_of_cell? w _ q0
  rw [block_of_add] at hb
  have hC : Kd.C (Kd.int .u32) w A1 (ints r.2).length (ints r.2) := hC
  rw [ints_length] at hC
  exact ⟨ad, A1, r.2.length, c1, e, by rw [block_of_add]; exact hb, q0, by rw [add_of_add]; exact q1, ints_C hC⟩
theorem rd_Ref (rs : List FRc) {i : Nat} {r : FRc} (h : rs[i]? = some r) : rd_T89 (rs.map sRef) (i : Int) = sRef r := by
  unfold rd_T89
  rw [Int.toNat_natCast]
  exact getD_map _ _ _ _ h

theorem rd_ints (pl : List Nat) {i : Nat} {x : Nat} (h : pl[i]? = some x) : rd (ints pl) (i : Int) = (x : Int) := by
  unfold rd
  rw [Int.toNat_natCast]
  exact getD_map _ _ _ _ h

/-! few -/
theorem few_l0 (rs : List FRc) (hn : rs.length ≤ 9223372036854775807) : ∀ (d i : Nat), rs.length - i = d → i ≤ rs.length →
    ∃ k b, rubricatorlaw10_few.l0 k (rs.map sRaw) (i : Int) = some b ∧ (b = true → rs.length ≤ 10 ∧ ∀ r ∈ rs.drop i, r.2.length ≤ 30) := by
  intro d
  induction d with
  | zero =>
    intro i hd hi
    refine ⟨1, decide ((rs.length : Int) ≤ 10), ?_, fun hb => ⟨by have := of_decide_eq_true hb; omega, ?_⟩⟩
    · simp only [rubricatorlaw10_few.l0]
      rw [if_neg (by rw [List.length_map]; omega), List.length_map]
    · rw [List.drop_of_length_le (by omega)]
      simp
  | succ d ih =>
    intro i hd hi
    obtain ⟨r, hr⟩ : ∃ r, rs[i]? = some r := ⟨_, List.getElem?_eq_getElem (by omega)⟩
    have hdr : rs.drop i = r :: rs.drop (i + 1) := by
      obtain ⟨hi, rfl⟩ := List.getElem?_eq_some_iff.1 hr
      exact List.drop_eq_getElem_cons hi
    by_cases h30 : 30 < r.2.length
    · refine ⟨1, false, ?_, by simp⟩
      simp only [rubricatorlaw10_few.l0]
      rw [if_pos (by rw [List.length_map]; omega), if_pos (by omega), rd_Raw _ hr, if_pos (by show ((ints r.2).length : Int) > 30; rw [ints_length]; omega)]
    · obtain ⟨k, b, hk, hb⟩ := ih (i + 1) (by omega) (by omega)
      refine ⟨k + 1, b, ?_, fun h => ⟨(hb h).1, fun x hx => ?_⟩⟩
      · simp only [rubricatorlaw10_few.l0]
        rw [if_pos (by rw [List.length_map]; omega), if_pos (by omega), rd_Raw _ hr, if_neg (by show ¬ ((ints r.2).length : Int) > 30; rw [ints_length]; omega), wrap_up (by omega)]
        exact hk
      · rw [hdr] at hx
        rcases List.mem_cons.1 hx with rfl | hx
        · omega
        · exact (hb h).2 x hx
theorem few_any (w : World) (B : Nat) (A : Option Addr) (n c : Nat) (rs : List FRc) (h : Recs w B A n rs) (hc : Caps w A n c rs) :
    Calls Try.prog 19 #[.slice A n c] w fun e w' => ∃ b, e = .returned (.bool b) ∧ Hid (b = true → rs.length ≤ 10 ∧ ∀ r ∈ rs, r.2.length ≤ 30) ∧ Below w.heap.size w w' := by
  have hl := h.1
  obtain ⟨k, b, hk, hb⟩ := few_l0 rs (by have := hc.1; omega) _ 0 rfl (Nat.zero_le _)
  have := rubricatorlaw10_few.calls k A c (rs.map sRaw) b w (C_Raw h hc) (by rw [List.length_map, hl]; exact hc.1.1) hk
  rw [List.length_map, hl] at this
  refine this.mono ?_
  rintro e w' ⟨rfl, hd⟩
  exact ⟨b, rfl, Lib.hid (by simpa using hb), hd.below⟩

/-! records -/
theorem records_l1 (X : List FRc) (hX : X.length ≤ 1000000000000) {i : Nat} {r : FRc} (hr : X[i]? = some r) (hrl : r.2.length ≤ 30000000000000) (x4 : List S69) (x5 : List S89) (h4 : x4.length < 4398046511104) (h5 : x5.length < 4398046511104) {R : List S69 × List S89}
    (hk : ∃ k, rubricatorlaw10_records.l0 k (X.map sRaw) (x4 ++ [sRec r]) (x5 ++ [sRef r]) ((i + 1 : Nat) : Int) = some R) : ∀ (d j : Nat), r.2.length - j = d → j ≤ r.2.length →
    ∃ k, rubricatorlaw10_records.l1 k (X.map sRaw) x4 x5 (i : Int) (ints (r.2.take j)) (j : Int) = some R := by
  have hi := (List.getElem?_eq_some_iff.1 hr).1
  intro d
  induction d with
  | zero =>
    intro j hd hj
    obtain ⟨k, hk⟩ := hk
    refine ⟨k + 1, ?_⟩
    simp only [rubricatorlaw10_records.l1]
    rw [if_pos (by omega), if_pos (by rw [List.length_map]; omega), rd_Raw _ hr, if_neg (by show ¬ (j : Int) < ((ints r.2).length : Int); rw [ints_length]; omega), if_pos h4, if_pos h5, wrap_up (by omega), List.take_of_length_le (by omega)]
    exact hk
  | succ d ih =>
    intro j hd hj
    obtain ⟨x, hx⟩ : ∃ x, r.2[j]? = some x := ⟨_, List.getElem?_eq_getElem (by omega)⟩
    obtain ⟨k, hk⟩ := ih (j + 1) (by omega) (by omega)
    refine ⟨k + 1, ?_⟩
    simp only [rubricatorlaw10_records.l1]
    rw [if_pos (by omega), if_pos (by rw [List.length_map]; omega), rd_Raw _ hr, if_pos (by show (j : Int) < ((ints r.2).length : Int); rw [ints_length]; omega), if_pos (by omega), if_pos (by rw [ints_length, List.length_take]; omega), wrap_up (by omega)]
    have e : ints (r.2.take j) ++ [rd ((sRaw r).f1) (j : Int)] = ints (r.2.take (j + 1)) := by
      rw [rtake_succ hx]
      show ints (r.2.take j) ++ [rd (ints r.2) (j : Int)] = _
      rw [rd_ints _ hx]
      simp [ints]
    rw [e]
    exact hk
theorem records_l0 (X : List FRc) (hX : X.length ≤ 1000000000000) (hrl : ∀ r ∈ X, r.2.length ≤ 30000000000000) : ∀ (d i : Nat), X.length - i = d → i ≤ X.length →
    ∃ k, rubricatorlaw10_records.l0 k (X.map sRaw) ((X.take i).map sRec) ((X.take i).map sRef) (i : Int) = some (X.map sRec, X.map sRef) := by
  intro d
  induction d with
  | zero =>
    intro i hd hi
    refine ⟨1, ?_⟩
    simp only [rubricatorlaw10_records.l0]
    rw [if_neg (by rw [List.length_map]; omega), List.take_of_length_le (by omega)]
  | succ d ih =>
    intro i hd hi
    obtain ⟨r, hr⟩ : ∃ r, X[i]? = some r := ⟨_, List.getElem?_eq_getElem (by omega)⟩
    have hh := ih (i + 1) (by omega) (by omega)
    rw [rtake_succ hr, List.map_append, List.map_append] at hh
    obtain ⟨k, hk⟩ := records_l1 X hX hr (hrl r (List.mem_of_getElem? hr)) _ _ (by rw [List.length_map, List.length_take]; omega) (by rw [List.length_map, List.length_take]; omega) hh _ 0 rfl (Nat.zero_le _)
    refine ⟨k + 1, ?_⟩
    simp only [rubricatorlaw10_records.l0]
    rw [if_pos (by rw [List.length_map]; omega)]
    exact hk
theorem records_any (w : World) (A : Option Addr) (n c : Nat) (rs : List FRc) (h : Recs w w.heap.size A n rs) (hc : Caps w A n c rs) (hn : n ≤ 1000000000000) (hrl : ∀ r ∈ rs, r.2.length ≤ 30000000000000) :
    Calls Try.prog 20 #[.slice A n c] w fun e w' => ∃ A1 c1 A2 c2, e = .returned (.tuple #[.slice A1 n c1, .slice A2 n c2]) ∧ Kd.C k69 w' A1 n (rs.map sRec) ∧ n ≤ c1 ∧ Kd.C k89 w' A2 n (rs.map sRef) ∧ n ≤ c2 ∧ Below w.heap.size w w' := by
  have hl := h.1
  obtain ⟨k, hk⟩ := records_l0 rs (by omega) hrl _ 0 rfl (Nat.zero_le _)
  have hV : Kd.V k88 88 w w.heap.size (fun k => k < w.heap.size) (.slice A (rs.map sRaw).length c) (rs.map sRaw) := by
    refine Kd.V_mk (by rw [List.length_map, hl]; exact hc.1.1) fun W' hW => ?_
    have hkeep : ∀ p : Addr, p.block < w.heap.size → W'.cell? p = w.cell? p := fun p hp => World.cell?_of_block (hW p.block hp hp)
    have h2 := C_Raw (h.keep hkeep) (hc.keep h hkeep)
    exact h2
  have := rubricatorlaw10_records.calls k (fun k => k < w.heap.size) A c (rs.map sRaw) (rs.map sRec) (rs.map sRef) w hV hk
  rw [List.length_map, hl] at this
  refine this.mono ?_
  rintro e w' ⟨v0, v1, rfl, hN0, hN1, hb⟩
  obtain ⟨A1, c1, rfl, hl1, hC1⟩ := Kd.N_reads hN0
  obtain ⟨A2, c2, rfl, hl2, hC2⟩ := Kd.N_reads hN1
  rw [List.length_map, hl] at hl1 hC1 hl2 hC2
  rw [List.length_map, List.length_map, hl]
  exact ⟨A1, c1, A2, c2, rfl, hC1, hl1, hC2, hl2, hb⟩

/-! same -/
theorem same_l1 (X : List FRc) (hX : X.length ≤ 1000000000000) {i : Nat} {r : FRc} (hr : X[i]? = some r) (hrl : r.2.length ≤ 30000000000000)
    (hk : ∃ k, rubricatorlaw10_same.l0 k (X.map sRec) (X.map sRef) ((i + 1 : Nat) : Int) = some true) : ∀ (d j : Nat), r.2.length - j = d → j ≤ r.2.length →
    ∃ k, rubricatorlaw10_same.l1 k (X.map sRec) (X.map sRef) (i : Int) (j : Int) = some true := by
  have hi := (List.getElem?_eq_some_iff.1 hr).1
  intro d
  induction d with
  | zero =>
    intro j hd hj
    obtain ⟨k, hk⟩ := hk
    refine ⟨k + 1, ?_⟩
    simp only [rubricatorlaw10_same.l1]
    rw [if_pos (by omega), if_pos (by rw [List.length_map]; omega), rd_Rec _ hr, if_neg (by show ¬ (j : Int) < ((ints r.2).length : Int); rw [ints_length]; omega), wrap_up (by omega)]
    exact hk
  | succ d ih =>
    intro j hd hj
    obtain ⟨x, hx⟩ : ∃ x, r.2[j]? = some x := ⟨_, List.getElem?_eq_getElem (by omega)⟩
    obtain ⟨k, hk⟩ := ih (j + 1) (by omega) (by omega)
    refine ⟨k + 1, ?_⟩
    simp only [rubricatorlaw10_same.l1]
    have c1 : (j : Int) < ((ints r.2).length : Int) := by rw [ints_length]; omega
    rw [if_pos (by omega), if_pos (by rw [List.length_map]; omega), rd_Rec _ hr, rd_Ref _ hr, if_pos (show (j : Int) < (((sRec r).f1).length : Int) from c1), if_pos (by omega), if_pos (by rw [List.length_map]; omega), if_pos (show (j : Int) < (((sRef r).f1).length : Int) from c1), if_pos (show rd ((sRec r).f1) (j : Int) = rd ((sRef r).f1) (j : Int) from rfl), wrap_up (by omega)]
    exact hk
theorem same_l0 (X : List FRc) (hX : X.length ≤ 1000000000000) (hrl : ∀ r ∈ X, r.2.length ≤ 30000000000000) : ∀ (d i : Nat), X.length - i = d → i ≤ X.length →
    ∃ k, rubricatorlaw10_same.l0 k (X.map sRec) (X.map sRef) (i : Int) = some true := by
  intro d
  induction d with
  | zero =>
    intro i hd hi
    refine ⟨1, ?_⟩
    simp only [rubricatorlaw10_same.l0]
    rw [if_neg (by rw [List.length_map]; omega)]
  | succ d ih =>
    intro i hd hi
    obtain ⟨r, hr⟩ : ∃ r, X[i]? = some r := ⟨_, List.getElem?_eq_getElem (by omega)⟩
    obtain ⟨k, hk⟩ := same_l1 X hX hr (hrl r (List.mem_of_getElem? hr)) (ih (i + 1) (by omega) (by omega)) _ 0 rfl (Nat.zero_le _)
    refine ⟨k + 2, ?_⟩
    simp only [rubricatorlaw10_same.l0]
    have hbne : ((((sRec r).f1).length : Int) != (((sRef r).f1).length : Int)) = false := by
      show (((ints r.2).length : Int) != ((ints r.2).length : Int)) = false
      simp
    rw [if_pos (by rw [List.length_map]; omega), if_pos (by omega), if_pos (by rw [List.length_map]; omega), rd_Rec _ hr, rd_Ref _ hr, if_pos (show (sRec r).f0 = (sRef r).f0 from rfl), hbne]
    simp only [rubricatorlaw10_same.j1]
    rw [if_neg (by simp)]
    exact hk
theorem same_any (w : World) (A A' : Option Addr) (n c c' : Nat) (rs : List FRc) (h : Kd.C k69 w A n (rs.map sRec)) (hc : n ≤ c) (h' : Kd.C k89 w A' n (rs.map sRef)) (hc' : n ≤ c') (hn : n ≤ 1000000000000) (hrl : ∀ r ∈ rs, r.2.length ≤ 30000000000000) :
    Calls Try.prog 23 #[.slice A n c, .slice A' n c'] w fun e w' => e = .returned (.bool true) ∧ Below w.heap.size w w' := by
  have hl : rs.length = n := by have := h.1; rw [List.length_map] at this; exact this
  subst hl
  obtain ⟨k, hk⟩ := same_l0 rs hn hrl _ 0 rfl (Nat.zero_le _)
  have hf : rubricatorlaw10_same.f k (rs.map sRec) (rs.map sRef) = some true := by
    unfold rubricatorlaw10_same.f
    rw [if_pos (by rw [List.length_map, List.length_map])]
    exact hk
  have := rubricatorlaw10_same.calls k A c (rs.map sRec) A' c' (rs.map sRef) true w (by rw [List.length_map]; exact h) (by rw [List.length_map]; exact hc) (by rw [List.length_map]; exact h') (by rw [List.length_map]; exact hc') hf
  rw [List.length_map, List.length_map] at this
  refine this.mono ?_
  rintro e w' ⟨rfl, hd⟩
  exact ⟨rfl, hd.below⟩

/-! pairs as rubricatorref10.P -/
def sP (p : FP) : S74 := ⟨(p.1 : Int), (p.2 : Int)⟩
theorem C_P {w : World} {B : Nat} {A : Option Addr} {n : Nat} {ps : List FP} (h : Prs w B A n ps) (hn : n ≤ 9223372036854775807) : Kd.C k74 w A (ps.map sP).length (ps.map sP) := by
  have hl := h.len
  refine ⟨rfl, by rw [List.length_map]; omega, fun h0 => ?_⟩
  rw [List.length_map] at h0
  obtain ⟨ad, e, _, hc⟩ := Reads.at_two h (by omega)
  refine ⟨ad, e, fun j p hj => ?_⟩
  simp only [List.getElem?_map, Option.map_eq_some_iff] at hj
  obtain ⟨q, hq, rfl⟩ := hj
  obtain ⟨h1, h2⟩ := PCs_at hq
  refine ⟨_, rfl, k74_mk w (sP q), fun i u hu => ?_⟩
  have hil := (List.getElem?_eq_some_iff.1 hu).1
  have hil : i < 2 := hil
  show w.cell? (ad.add (j * 2 + i)) = some u
  rcases (by omega : i = 0 ∨ i = 1) with rfl | rfl
  · cases hu
    exact hc _ _ h1
  · cases hu
    exact hc _ _ h2
theorem prs_R {w : World} {base : Nat} {ok : Nat → Prop} {v : Value} {ps : List FP} (h : Kd.R k74 74 w base ok v (ps.map sP)) : ∃ A c, v = .slice A ps.length c ∧ Prs w w.heap.size A ps.length ps := by
  obtain ⟨A, c, rfl, hl, hC⟩ := Kd.R_reads h
  rw [List.length_map] at hC ⊢
  refine ⟨A, c, rfl, by rw [PCs_length], fun hn => ?_⟩
  obtain ⟨_, _, h3⟩ := hC
  obtain ⟨ad, e, hc⟩ := h3 hn
  have key : ∀ j u, (PCs ps)[j]? = some u → w.cell? (ad.add j) = some u := fun j u hu => by
    have hjl := (List.getElem?_eq_some_iff.1 hu).1
    rw [PCs_length] at hjl
    obtain ⟨q, hq⟩ : ∃ q, ps[j / 2]? = some q := ⟨_, List.getElem?_eq_getElem (by omega)⟩
    obtain ⟨cs, hcl, hk, hcc⟩ := hc (j / 2) (sP q) (by simp [hq])
    have hk := k74_open hk
    subst hk
    obtain ⟨h1, h2⟩ := PCs_at hq
    have q0 : w.cell? (ad.add (j / 2 * 2 + 0)) = some (.int .u64 (q.1 : Int)) := hcc 0 _ rfl
    have q1 : w.cell? (ad.add (j / 2 * 2 + 1)) = some (.int .u32 (q.2 : Int)) := hcc 1 _ rfl
    rcases (by omega : j = j / 2 * 2 ∨ j = j / 2 * 2 + 1) with e | e
    · rw [e] at hu ⊢
      rw [h1] at hu
      cases hu
      exact q0
    · rw [e] at hu ⊢
      rw [h2] at hu
      cases hu
      exact q1
  refine ⟨ad, e, ?_, key⟩
  have h0 := key 0 _ (List.getElem?_eq_getElem (by rw [PCs_length]; omega))
  have := World.block_lt_of_cell? w _ h0
  rwa [block_of_add] at this
theorem rd_P (ps : List FP) {i : Nat} {p : FP} (h : ps[i]? = some p) : rd_T74 (ps.map sP) (i : Int) = sP p := by
  unfold rd_T74
  rw [Int.toNat_natCast]
  exact getD_map _ _ _ _ h

/-! Flat -/
theorem flat_l1 (X : List FRc) (hX : X.length ≤ 1000000000000) (hF : (fFl X).length ≤ 1000000000000) {i : Nat} {r : FRc} (hr : X[i]? = some r)
    (hk : ∃ k, rubricatorref10_Flat.l0 k (X.map sRef) ((fFl (X.take (i + 1))).map sP) ((i + 1 : Nat) : Int) = some ((fFl X).map sP)) : ∀ (d j : Nat), r.2.length - j = d → j ≤ r.2.length →
    ∃ k, rubricatorref10_Flat.l1 k (X.map sRef) ((fFl (X.take i) ++ (r.2.take j).map fun x => (r.1, x)).map sP) (i : Int) (j : Int) = some ((fFl X).map sP) := by
  have hi := (List.getElem?_eq_some_iff.1 hr).1
  intro d
  induction d with
  | zero =>
    intro j hd hj
    obtain ⟨k, hk⟩ := hk
    refine ⟨k + 1, ?_⟩
    simp only [rubricatorref10_Flat.l1]
    rw [if_pos (by omega), if_pos (by rw [List.length_map]; omega), rd_Ref _ hr, if_neg (by show ¬ (j : Int) < ((ints r.2).length : Int); rw [ints_length]; omega), wrap_up (by omega), List.take_of_length_le (show r.2.length ≤ j by omega)]
    rw [rtake_succ hr, fFl_snoc] at hk
    exact hk
  | succ d ih =>
    intro j hd hj
    obtain ⟨x, hx⟩ : ∃ x, r.2[j]? = some x := ⟨_, List.getElem?_eq_getElem (by omega)⟩
    obtain ⟨k, hk⟩ := ih (j + 1) (by omega) (by omega)
    have hlt := fFl_take_le X hr j (by omega)
    refine ⟨k + 1, ?_⟩
    simp only [rubricatorref10_Flat.l1]
    rw [if_pos (by omega), if_pos (by rw [List.length_map]; omega), rd_Ref _ hr, if_pos (by show (j : Int) < ((ints r.2).length : Int); rw [ints_length]; omega), if_pos (by omega), if_pos (by rw [List.length_map]; omega), wrap_up (by have := hlt; rw [List.length_append, List.length_map, List.length_take] at this; omega)]
    have e : ((fFl (X.take i) ++ (r.2.take j).map fun x => (r.1, x)).map sP) ++ [(⟨(sRef r).f0, rd ((sRef r).f1) (j : Int)⟩ : S74)] = (fFl (X.take i) ++ (r.2.take (j + 1)).map fun x => (r.1, x)).map sP := by
      rw [rtake_succ hx]
      show _ ++ [(⟨(r.1 : Int), rd (ints r.2) (j : Int)⟩ : S74)] = _
      rw [rd_ints _ hx]
      simp [sP]
    rw [e]
    exact hk
theorem flat_l0 (X : List FRc) (hX : X.length ≤ 1000000000000) (hF : (fFl X).length ≤ 1000000000000) : ∀ (d i : Nat), X.length - i = d → i ≤ X.length →
    ∃ k, rubricatorref10_Flat.l0 k (X.map sRef) ((fFl (X.take i)).map sP) (i : Int) = some ((fFl X).map sP) := by
  intro d
  induction d with
  | zero =>
    intro i hd hi
    refine ⟨1, ?_⟩
    simp only [rubricatorref10_Flat.l0]
    rw [if_neg (by rw [List.length_map]; omega), List.take_of_length_le (by omega)]
  | succ d ih =>
    intro i hd hi
    obtain ⟨r, hr⟩ : ∃ r, X[i]? = some r := ⟨_, List.getElem?_eq_getElem (by omega)⟩
    obtain ⟨k, hk⟩ := flat_l1 X hX hF hr (ih (i + 1) (by omega) (by omega)) _ 0 rfl (Nat.zero_le _)
    refine ⟨k + 1, ?_⟩
    simp only [rubricatorref10_Flat.l0]
    rw [if_pos (by rw [List.length_map]; omega)]
    simpa using hk
theorem rflat_any (w : World) (A : Option Addr) (n c : Nat) (rs : List FRc) (h : Kd.C k89 w A n (rs.map sRef)) (hc : n ≤ c) (hn : n ≤ 1000000000000) (hF : (fFl rs).length ≤ 1000000000000) :
    Calls Try.prog 22 #[.slice A n c] w fun e w' => ∃ A' c', e = .returned (.slice A' (fFl rs).length c') ∧ Prs w' w'.heap.size A' (fFl rs).length (fFl rs) ∧ Below w.heap.size w w' := by
  have hl : rs.length = n := by have := h.1; rw [List.length_map] at this; exact this
  subst hl
  obtain ⟨k, hk⟩ := flat_l0 rs hn hF _ 0 rfl (Nat.zero_le _)
  have := rubricatorref10_Flat.calls k A c (rs.map sRef) ((fFl rs).map sP) w (by rw [List.length_map]; exact h) (by rw [List.length_map]; exact hc) hk
  rw [List.length_map] at this
  refine this.mono ?_
  rintro e w' ⟨v, rfl, hR, hb⟩
  obtain ⟨A', c', rfl, hp⟩ := prs_R hR
  exact ⟨A', c', rfl, hp, hb⟩

/-! Gather -/
def prevOf (ps : List FP) (i : Nat) : Option Nat := if i = 0 then none else (ps[i - 1]?).map (·.1)
theorem prevOf_succ {ps : List FP} {i : Nat} {p : FP} (h : ps[i]? = some p) : prevOf ps (i + 1) = some p.1 := by simp [prevOf, h]
theorem runs_len (l : List FP) : ∀ o, (runs o l).length ≤ l.length := by
  induction l with
  | nil => intro o; simp [runs]
  | cons p l ih =>
    intro o
    unfold runs
    split
    · have := ih (some p.1); simp; omega
    · have := ih (some p.1); simp; omega
theorem gather_l1 (ps : List FP) (hX : ps.length ≤ 1000000000000) {i : Nat} {p : FP} (hp : ps[i]? = some p) (x3 : List S89) (h3 : x3.length ≤ i) {R : List S89}
    (hk : ∃ k, rubricatorref10_Gather.l0 k (ps.map sP) (x3 ++ [sRef (p.1, (( ps.drop i).takeWhile fun q => q.1 == p.1).map (·.2))]) ((i + 1 : Nat) : Int) = some R) : ∀ (d m : Nat), ps.length - m = d → i ≤ m → m ≤ ps.length →
    ∀ acc : List Nat, acc.length ≤ m → acc ++ ((ps.drop m).takeWhile fun q => q.1 == p.1).map (·.2) = ((ps.drop i).takeWhile fun q => q.1 == p.1).map (·.2) →
    ∃ k, rubricatorref10_Gather.l1 k (ps.map sP) x3 (i : Int) (m : Int) (p.1 : Int) (ints acc) = some R := by
  have hi := (List.getElem?_eq_some_iff.1 hp).1
  intro d
  induction d with
  | zero =>
    intro m hd him hm acc hal hacc
    obtain ⟨k, hk⟩ := hk
    refine ⟨k + 1, ?_⟩
    simp only [rubricatorref10_Gather.l1]
    rw [if_neg (by rw [List.length_map]; omega), if_pos (by omega), wrap_up (by omega)]
    rw [List.drop_of_length_le (show ps.length ≤ m by omega)] at hacc
    simp only [List.takeWhile_nil, List.map_nil, List.append_nil] at hacc
    rw [← hacc] at hk
    exact hk
  | succ d ih =>
    intro m hd him hm acc hal hacc
    obtain ⟨q, hq⟩ : ∃ q, ps[m]? = some q := ⟨_, List.getElem?_eq_getElem (by omega)⟩
    have hdr : ps.drop m = q :: ps.drop (m + 1) := by
      obtain ⟨hi, rfl⟩ := List.getElem?_eq_some_iff.1 hq
      exact List.drop_eq_getElem_cons hi
    rw [hdr] at hacc
    by_cases e : q.1 = p.1
    · obtain ⟨k, hk⟩ := ih (m + 1) (by omega) (by omega) (by omega) (acc ++ [q.2]) (by simp; omega) (by
        rw [← hacc]
        simp [List.takeWhile_cons, e])
      refine ⟨k + 1, ?_⟩
      simp only [rubricatorref10_Gather.l1]
      rw [if_pos (by rw [List.length_map]; omega), if_pos (by omega), if_pos (by omega), if_pos (by rw [List.length_map]; omega), rd_P _ hq, rd_P _ hp, if_pos (show (sP q).f0 = (sP p).f0 by show (q.1 : Int) = (p.1 : Int); rw [e]), if_pos (by rw [ints_length]; omega), wrap_up (by omega)]
      have e2 : ints acc ++ [(sP q).f1] = ints (acc ++ [q.2]) := by simp [ints, sP]
      rw [e2]
      exact hk
    · obtain ⟨k, hk⟩ := hk
      have e' : (q.1 == p.1) = false := by simp [e]
      simp only [List.takeWhile_cons, e', Bool.false_eq_true, if_false, List.map_nil, List.append_nil] at hacc
      rw [← hacc] at hk
      refine ⟨k + 1, ?_⟩
      simp only [rubricatorref10_Gather.l1]
      rw [if_pos (by rw [List.length_map]; omega), if_pos (by omega), if_pos (by omega), if_pos (by rw [List.length_map]; omega), rd_P _ hq, rd_P _ hp, if_neg (show ¬ (sP q).f0 = (sP p).f0 by show ¬ (q.1 : Int) = (p.1 : Int); omega), if_pos (by omega), wrap_up (by omega)]
      exact hk
theorem gather_l0 (ps : List FP) (hX : ps.length ≤ 1000000000000) : ∀ (d i : Nat), ps.length - i = d → i ≤ ps.length → ∀ x3 : List FRc, x3.length ≤ i →
    ∃ k, rubricatorref10_Gather.l0 k (ps.map sP) (x3.map sRef) (i : Int) = some ((x3 ++ runs (prevOf ps i) (ps.drop i)).map sRef) := by
  intro d
  induction d with
  | zero =>
    intro i hd hi x3 h3
    refine ⟨1, ?_⟩
    simp only [rubricatorref10_Gather.l0]
    rw [if_neg (by rw [List.length_map]; omega), List.drop_of_length_le (by omega)]
    simp [runs]
  | succ d ih =>
    intro i hd hi x3 h3
    obtain ⟨p, hp⟩ : ∃ p, ps[i]? = some p := ⟨_, List.getElem?_eq_getElem (by omega)⟩
    have hdr : ps.drop i = p :: ps.drop (i + 1) := by
      obtain ⟨hi, rfl⟩ := List.getElem?_eq_some_iff.1 hp
      exact List.drop_eq_getElem_cons hi
    have hstart : prevOf ps i ≠ some p.1 → ∃ k, rubricatorref10_Gather.j1 k (ps.map sP) (x3.map sRef) (i : Int) false = some ((x3 ++ runs (prevOf ps i) (ps.drop i)).map sRef) := fun hne => by
      obtain ⟨k0, hk0⟩ := ih (i + 1) (by omega) (by omega) (x3 ++ [(p.1, ((ps.drop i).takeWhile fun q => q.1 == p.1).map (·.2))]) (by simp; omega)
      obtain ⟨k, hk⟩ := gather_l1 ps hX hp (x3.map sRef) (by rw [List.length_map]; exact h3) (R := (x3 ++ runs (prevOf ps i) (ps.drop i)).map sRef) ⟨k0, by
        rw [List.map_append] at hk0
        refine hk0.trans ?_
        rw [prevOf_succ hp, hdr]
        conv => rhs; rw [runs]
        rw [if_neg hne]
        simp [List.takeWhile_cons]⟩ _ i rfl (Nat.le_refl _) (by omega) [] (Nat.zero_le _) (by simp)
      refine ⟨k + 1, ?_⟩
      simp only [rubricatorref10_Gather.j1]
      rw [if_neg (by simp), if_pos (by omega), if_pos (by rw [List.length_map]; omega), rd_P _ hp]
      exact hk
    by_cases h0 : i = 0
    · obtain ⟨k, hk⟩ := hstart (by simp [prevOf, h0])
      refine ⟨k + 1, ?_⟩
      simp only [rubricatorref10_Gather.l0]
      rw [if_pos (by rw [List.length_map]; omega), if_neg (by omega)]
      exact hk
    · obtain ⟨q, hq⟩ : ∃ q, ps[i - 1]? = some q := ⟨_, List.getElem?_eq_getElem (by omega)⟩
      have hpv : prevOf ps i = some q.1 := by simp [prevOf, h0, hq]
      have hw : wrap64 ((i : Int) - 1) = ((i - 1 : Nat) : Int) := by unfold wrap64; omega
      by_cases e : p.1 = q.1
      · obtain ⟨k, hk⟩ := ih (i + 1) (by omega) (by omega) x3 (by omega)
        refine ⟨k + 2, ?_⟩
        simp only [rubricatorref10_Gather.l0]
        rw [if_pos (by rw [List.length_map]; omega), if_pos (by omega), if_pos (by omega), hw, if_pos (by omega), if_pos (by rw [List.length_map]; omega), rd_P _ hp, rd_P _ hq]
        have hb : ((sP p).f0 == (sP q).f0) = true := by show ((p.1 : Int) == (q.1 : Int)) = true; simp [e]
        rw [hb]
        simp only [rubricatorref10_Gather.j1]
        rw [if_pos trivial, wrap_up (by omega)]
        refine hk.trans ?_
        rw [prevOf_succ hp, hdr]
        conv => rhs; rw [runs]
        rw [if_pos (by rw [hpv, e])]
      · obtain ⟨k, hk⟩ := hstart (by rw [hpv]; intro h; injection h with h; exact e h.symm)
        refine ⟨k + 1, ?_⟩
        simp only [rubricatorref10_Gather.l0]
        rw [if_pos (by rw [List.length_map]; omega), if_pos (by omega), if_pos (by omega), hw, if_pos (by omega), if_pos (by rw [List.length_map]; omega), rd_P _ hp, rd_P _ hq]
        have hb : ((sP p).f0 == (sP q).f0) = false := by show ((p.1 : Int) == (q.1 : Int)) = false; simp; omega
        rw [hb]
        exact hk
theorem rgather_any (w : World) (B : Nat) (A : Option Addr) (n c : Nat) (ps : List FP) (h : Prs w B A n ps) (hc : n ≤ c) (hn : n ≤ 1000000000000) :
    Calls Try.prog 25 #[.slice A n c] w fun e w' => ∃ A' c', e = .returned (.slice A' (fGa ps).length c') ∧ Kd.C k89 w' A' (fGa ps).length ((fGa ps).map sRef) ∧ (fGa ps).length ≤ c' ∧ Below w.heap.size w w' := by
  have hl := h.len
  subst hl
  obtain ⟨k, hk⟩ := gather_l0 ps hn _ 0 rfl (Nat.zero_le _) [] (Nat.zero_le _)
  have hk : rubricatorref10_Gather.f k (ps.map sP) = some ((fGa ps).map sRef) := by
    rw [fGa_runs]
    unfold rubricatorref10_Gather.f
    simpa [prevOf] using hk
  have := rubricatorref10_Gather.calls k A c (ps.map sP) ((fGa ps).map sRef) w (C_P h (by omega)) (by rw [List.length_map]; exact hc) hk
  rw [List.length_map] at this
  refine this.mono ?_
  rintro e w' ⟨v, rfl, hS, hb⟩
  obtain ⟨A', c', rfl, hle, hC⟩ := Kd.R_reads (Kd.S_R hS)
  rw [List.length_map] at hle hC ⊢
  exact ⟨A', c', rfl, hC, hle, hb⟩

end Go.Proofs.Ythmkmojlnfkfjaa
