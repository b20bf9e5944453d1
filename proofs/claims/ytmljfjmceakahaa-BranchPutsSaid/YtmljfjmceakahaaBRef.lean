/- rubricatorref05: the model's entries in memory; Fill, Find. -/
import Derived.Test.YtmljfjmceakahaaBCmpP
import Derived.Test.YtmljfjmceakahaaRefN
import Derived.Laws.Cover1
namespace Go.Proofs.Ytmljfjmceakahaa
open Go.RowKit
set_option linter.unusedVariables false
set_option linter.unusedSimpArgs false

theorem st_size (l : List UInt8) : (st l).size = l.length := by simp [ByteArray.size]

/-- Strings in order. -/
theorem bytesLess_cmp (a b : List UInt8) : Op.bytesLess a b = decide (Lib.compareBytes a b < 0) := by
  induction a generalizing b with
  | nil => cases b <;> simp [Op.bytesLess, Lib.compareBytes]
  | cons x a ih =>
    cases b with
    | nil => simp [Op.bytesLess, Lib.compareBytes]
    | cons y b =>
      unfold Op.bytesLess Lib.compareBytes
      rw [ih]
      simp only [UInt8.lt_iff_toNat_lt]
      rcases Nat.lt_trichotomy x.toNat y.toNat with h | h | h
      · simp [h]
      · have hxy : x = y := UInt8.toNat_inj.1 h
        subst hxy
        simp
      · have hne : ¬ x = y := fun e => by subst e; omega
        have hn : ¬ x.toNat < y.toNat := by omega
        simp [hn, h, hne]

/-- The model's entries, as they lie in rows below block B: two cells each, the key and the child. -/
def REnts (w : World) (B : Nat) (A : Option Addr) (n : Nat) (es : List (List UInt8 × Nat)) : Prop :=
  es.length = n ∧ ∀ (i : Nat) (k : List UInt8) (x : Nat), es[i]? = some (k, x) → x < 4294967296 ∧ ∃ ad, A = some ad ∧ ad.block < B ∧ w.cell? (ad.add (i * 2)) = some (.string (st k)) ∧ w.cell? ((ad.add (i * 2)).add 1) = some (.int .u32 (x : Int))
theorem REnts.below {w w' : World} {B : Nat} {A : Option Addr} {n : Nat} {es : List (List UInt8 × Nat)} (h : REnts w B A n es) (hb : Below B w w') : REnts w' B A n es := by
  refine ⟨h.1, fun i k x hi => ?_⟩
  obtain ⟨hx, ad, he, hB, h1, h2⟩ := h.2 i k x hi
  exact ⟨hx, ad, he, hB, (hb.cell (p := ad.add (i * 2)) (by rw [block_of_add]; exact hB)).trans h1, (hb.cell (p := (ad.add (i * 2)).add 1) (by rw [block_of_add, block_of_add]; exact hB)).trans h2⟩
theorem REnts.at_ {w : World} {B : Nat} {A : Option Addr} {n : Nat} {es : List (List UInt8 × Nat)} (h : REnts w B A n es) {i : Nat} (hi : i < n) : ∃ k x ad, es[i]? = some (k, x) ∧ x < 4294967296 ∧ A = some ad ∧ ad.block < B ∧
    w.cell? (ad.add (i * 2)) = some (.string (st k)) ∧ w.cell? ((ad.add (i * 2)).add 1) = some (.int .u32 (x : Int)) := by
  obtain ⟨⟨k, x⟩, he⟩ : ∃ e, es[i]? = some e := ⟨_, List.getElem?_eq_getElem (show i < es.length by rw [h.1]; exact hi)⟩
  obtain ⟨hx, ad, h1, h2, h3, h4⟩ := h.2 i k x he
  exact ⟨k, x, ad, he, hx, h1, h2, h3, h4⟩

set_option maxRecDepth 100000 in
theorem rfill_any (w : World) (B : Nat) (A : Option Addr) (n c : Nat) (es : List (List UInt8 × Nat)) (h : REnts w B A n es) (hBw : B ≤ w.heap.size) (hn : n ≤ 1000000) (hk : ∀ e ∈ es, e.1.length ≤ 1000000) :
    Calls Try.prog 22 #[.slice A n c] w fun e w' => e = .returned (.int .i64 (bFill es : Nat)) ∧ Below w.heap.size w w' := by
  go_enter Try.func22, Try.ntmps22
  go_wp2_with fail
  go_loopw [3, 4] (fun f i wr => ∃ k F : Nat, k ≤ n ∧ f = .int .i64 (F : Int) ∧ i = .int .i64 (k : Int) ∧ Hid (F = bFill (es.take k)) ∧ F ≤ 4 + k * 1000007 ∧ Below w.heap.size w wr) (fun _ i _ => n - (intOf i).toNat)
  case atStart => exact ⟨0, 4, Nat.zero_le _, rfl, rfl, Lib.hid (by simp [bFill]), by omega, Below.refl _ _⟩
  case round =>
    obtain ⟨k, F, hkn, rfl, rfl, hF, hFb, hbw⟩ := hrel
    by_cases hlt : k < n
    · obtain ⟨ky, x, ad, he, hx, rfl, hB, a0, a1⟩ := (h.at_ hlt)
      have hbs := hbw.size
      obtain ⟨nk, hnk⟩ : ∃ nk, ky.length = nk := ⟨_, rfl⟩
      have hnk1 : nk ≤ 1000000 := by rw [← hnk]; exact hk _ (List.mem_of_getElem? he)
      have hFk : F + 7 + nk = bFill (es.take (k + 1)) := by
        rw [bFill_take he, ← hF.out, hnk]
      have HFk := Lib.hid hFk
      have b0 := (hbw.cell (p := ad.add (k * 2)) (by rw [block_of_add]; omega)).trans a0
      obtain ⟨ts, hts⟩ : ∃ ts, st ky = ts := ⟨_, rfl⟩
      rw [hts] at b0
      have hsz : ts.size = nk := by rw [← hts, st_size, hnk]
      clear hFk a0 a1 he hts hnk
      go_wp2_with fail
      refine ⟨⟨k + 1, F + 7 + nk, hlt, by go_num, by go_num, HFk, by omega, hbw⟩, by simp [intOf]; omega⟩
    · obtain rfl : k = n := by omega
      go_wp2_with fail
      go_ret
      have hFF := hF.out
      rw [List.take_of_length_le (by rw [h.1]; exact Nat.le_refl _)] at hFF
      subst hFF
      exact ⟨rfl, hbw⟩

theorem st_toList (l : List UInt8) : (st l).toList = l := by simp [st]
theorem leq_cmp (a b : List UInt8) : (Op.bytesLess (st a).toList (st b).toList || (st a).toList == (st b).toList) = decide (Lib.compareBytes a b ≤ 0) := by
  rw [st_toList, st_toList, bytesLess_cmp]
  by_cases h : a = b
  · have := (cmp_eq0 a b).2 h
    subst h
    simp [this]
  · have h0 : ¬ Lib.compareBytes a b = 0 := fun e => h ((cmp_eq0 a b).1 e)
    have hb : (a == b) = false := by simpa using h
    rw [hb, Bool.or_false, decide_eq_decide]
    omega

def BRFP (es : List (List UInt8 × Nat)) (key : List UInt8) (n : Nat) (w : World) (e : Ending) (w' : World) : Prop :=
  ∃ i : Nat, e = .returned (.int .i64 (i : Int)) ∧ (i = 0 ∨ i < n ∧ bRk es key i ≤ 0) ∧ (∀ j, i < j → j < n → 0 < bRk es key j) ∧ Below w.heap.size w w'

set_option maxRecDepth 100000 in
theorem rfind_any (w : World) (B : Nat) (A : Option Addr) (n c : Nat) (es : List (List UInt8 × Nat)) (h : REnts w B A n es) (hBw : B ≤ w.heap.size) (hn : n ≤ 1000000) (key : List UInt8) :
    Calls Try.prog 24 #[.slice A n c, .string (st key)] w (BRFP es key n w) := by
  obtain ⟨kt, hkt⟩ : ∃ kt, st key = kt := ⟨_, rfl⟩
  rw [hkt]
  have HKT := Lib.hid hkt
  clear hkt
  go_enter Try.func24, Try.ntmps24
  go_wp2_with fail
  go_loopw [5, 6] (fun f i wr => ∃ k a : Nat, k ≤ n ∧ f = .int .i64 (a : Int) ∧ i = .int .i64 (k : Int) ∧ (a = 0 ∨ a < k ∧ bRk es key a ≤ 0) ∧ (∀ j, a < j → j < k → 0 < bRk es key j) ∧ Below w.heap.size w wr) (fun _ i _ => n - (intOf i).toNat)
  case atStart => exact ⟨0, 0, Nat.zero_le _, rfl, rfl, .inl rfl, fun j h1 h2 => by omega, Below.refl _ _⟩
  case round =>
    obtain ⟨k, a, hkn, rfl, rfl, ha, hall, hbw⟩ := hrel
    by_cases hlt : k < n
    · obtain ⟨ky, x, ad, he, hx, rfl, hB, a0, a1⟩ := (h.at_ hlt)
      have b0 := (hbw.cell (p := ad.add (k * 2)) (by rw [block_of_add]; omega)).trans a0
      have hrk : bRk es key k = Lib.compareBytes ky key := by simp [bRk, he]
      have hle := leq_cmp ky key
      rw [HKT.out, ← hrk] at hle
      obtain ⟨ts, hts⟩ : ∃ ts, st ky = ts := ⟨_, rfl⟩
      rw [hts] at b0 hle
      by_cases d : bRk es key k ≤ 0
      · rw [decide_eq_true d] at hle
        have hrel2 : (k = 0 ∨ k < k + 1 ∧ bRk es key k ≤ 0) := .inr ⟨by omega, d⟩
        have hrel3 : ∀ j, k < j → j < k + 1 → 0 < bRk es key j := fun j h1 h2 => by omega
        clear hall ha he a0 a1 hts hrk d
        go_wp2_with fail
        refine ⟨⟨k + 1, k, hlt, rfl, by go_num, hrel2, hrel3, hbw⟩, by simp [intOf]; omega⟩
      · rw [decide_eq_false d] at hle
        have hrel2 : (a = 0 ∨ a < k + 1 ∧ bRk es key a ≤ 0) := ha.imp id (fun hh => ⟨by omega, hh.2⟩)
        have hrel3 : ∀ j, a < j → j < k + 1 → 0 < bRk es key j := fun j h1 h2 => by
          by_cases hjk : j < k
          · exact hall j h1 hjk
          · obtain rfl : j = k := by omega
            omega
        clear hall ha he a0 a1 hts hrk d
        go_wp2_with fail
        refine ⟨⟨k + 1, a, hlt, rfl, by go_num, hrel2, hrel3, hbw⟩, by simp [intOf]; omega⟩
    · obtain rfl : k = n := by omega
      have hpost : BRFP es key k w (.returned (.int .i64 (a : Int))) wr := ⟨a, rfl, ha, hall, hbw⟩
      clear hall ha
      go_wp2_with fail
      go_ret
      exact hpost

end Go.Proofs.Ytmljfjmceakahaa
