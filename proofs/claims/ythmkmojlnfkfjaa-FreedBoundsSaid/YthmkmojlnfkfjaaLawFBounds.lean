/- FreedBounds. -/
import Derived.Test.YthmkmojlnfkfjaaFAwake
namespace Go.Proofs.Ythmkmojlnfkfjaa
open Go.RowKit
set_option linter.unusedVariables false
set_option linter.unusedSimpArgs false

theorem cut_hN {P : Program} (t e : TypeId) (kh : IntKind) {i : TypeInfo} (size : Nat) (ht : P.underlying t = some (.slice e)) (hi : P.info? e = some i) (hsz : i.size = size) (A : Option Addr) (n c m : Nat) (hm : m ≤ n) (hc : n ≤ c) :
    ∃ A' : Option Addr, (∀ W : World, (Instr.slice t (.slice A n c) none (some (.int kh (m : Int))) none).run P W = .ok (.slice A' m c) W) ∧
      ∀ (w : World) (B : Nat) (xs : List Value), Reads w B size A n xs → Reads w B size A' m (xs.take (m * size)) := by
  refine ⟨if c = 0 then A else A.map (·.add (0 * size)), fun W => ?_, fun w B l h => ⟨?_, fun hn => ?_⟩⟩
  · have hel : P.elem t = e := by simp [Program.elem, ht]
    have hu : P.underlying t = some (.slice (P.elem t)) := by rw [hel]; exact ht
    rw [run_slice_h W t A n c hu kh (m : Int) (Int.natCast_nonneg _) (by omega), hel]
    simp [sizeOf, typeInfo, hi, hsz, sliced, Result.andThen]
  · have := h.1
    have h2 : m * size ≤ n * size := Nat.mul_le_mul_right _ hm
    rw [List.length_take]
    omega
  · obtain ⟨ad, rfl, hb, hcell⟩ := h.2 (by omega)
    rw [if_neg (by omega)]
    refine ⟨ad.add (0 * size), rfl, by rw [block_of_add]; exact hb, fun j u hu => ?_⟩
    rw [add_of_add, Nat.zero_mul, Nat.zero_add]
    refine hcell j u ?_
    rw [List.getElem?_take] at hu
    split at hu
    · exact hu
    · cases hu
def bdP (k : Nat) : List FP := (List.range k).map fun i => (1, i + 2)
theorem bdP_length (k : Nat) : (bdP k).length = k := by simp [bdP]
theorem bdP_succ (k : Nat) : bdP (k + 1) = bdP k ++ [(1, k + 2)] := by simp [bdP, List.range_succ]
theorem bdP_take (k : Nat) : (bdP (k + 1)).take k = bdP k := by rw [bdP_succ, List.take_left' (bdP_length k)]
theorem bdP_drop (k : Nat) : (bdP (k + 1)).drop k = [(1, k + 2)] := by rw [bdP_succ, List.drop_left' (bdP_length k)]
theorem bdP_ok (k : Nat) (hk : k ≤ 10000) : FPs (bdP k) := by
  intro p hp
  obtain ⟨i, hi, rfl⟩ := List.mem_map.1 hp
  have := List.mem_range.1 hi
  exact ⟨by show 1 < _; omega, by show i + 2 < _; omega⟩
theorem bdP_rise (k : Nat) : FRise (bdP k) := by
  intro i p q hp hq
  simp only [bdP, List.getElem?_map, Option.map_eq_some_iff] at hp hq
  obtain ⟨a, ha, rfl⟩ := hp
  obtain ⟨b, hb, rfl⟩ := hq
  have h1 := (List.getElem?_eq_some_iff.1 ha)
  have h2 := (List.getElem?_eq_some_iff.1 hb)
  obtain ⟨_, h1⟩ := h1
  obtain ⟨_, h2⟩ := h2
  rw [List.getElem_range] at h1 h2
  subst h1 h2
  show cmpP (1, i + 2) (1, i + 1 + 2) < 0
  unfold cmpP cmpN
  rw [if_neg (by simp), if_pos (by show i + 2 < i + 1 + 2; omega)]
  decide

set_option maxRecDepth 100000 in
set_option maxHeartbeats 4000000 in
theorem freedBounds_law (w : World) (S : Int) (n : Nat) (hn : n < 65536) :
    Calls Try.prog 6 #[.int .i64 S, .int .u16 (n : Int)] w fun e w' => e = .returned (.bool true) ∧ Below w.heap.size w w' := by
  obtain ⟨ip, pi0, pz0, pz1, pz2⟩ := info_parts info_pair
  go_enter Try.func6, Try.ntmps6
  go_wp2_with fail
  refine (awake10 w).mono ?_
  rintro e w1 ⟨rfl, hb1⟩
  by_cases hS : ¬ (512 ≤ S ∧ S ≤ 4096)
  · have hput := fput_no w1 0 none 0 0 [] Prs.nil_ (Nat.zero_le _) (by intro p hp; cases hp) (by omega) 0 (by omega) S (fun h => hS ⟨h.1, h.2.1⟩)
    have hc : S < 512 ∨ (¬ S < 512 ∧ 4096 < S) := by omega
    rcases hc with hc | ⟨hc, hc'⟩
    all_goals (
      go_wp2_with fail
      refine hput.mono ?_
      rintro e w2 ⟨rfl, hb2⟩
      go_wp2_with fail
      refine (fspread_any w2 0 none 0 0 [] Prs.nil_ (Nat.zero_le _) (by omega) 1 S).mono ?_
      rintro e w3 ⟨hb3, hcase⟩
      have he : e = .returned (.tuple #[.slice none 0 0, .int .i64 1]) := by
        rcases hcase with ⟨_, he⟩ | ⟨hin, _⟩ | ⟨hin, _⟩
        · exact he
        · exact absurd ⟨hin.1, hin.2.1⟩ hS
        · exact absurd ⟨hin.1, hin.2.1⟩ hS
      subst he
      have hb := (hb1.trans (hb2.mono hb1.size)).trans (hb3.mono (Nat.le_trans hb1.size hb2.size))
      clear hput hcase hb1 hb2 hb3
      go_wp2_with fail
      go_ret
      exact ⟨rfl, hb⟩)
  obtain ⟨hS1, hS2⟩ := Decidable.not_not.1 hS
  clear hS
  obtain ⟨size, rfl⟩ := Int.eq_ofNat_of_zero_le (show 0 ≤ S by omega)
  obtain ⟨r1, r2, r3⟩ := fRoom_bounds (size := size) (by omega) (by omega)
  obtain ⟨m, hm⟩ : ∃ m, size - 8 = m := ⟨_, rfl⟩
  obtain ⟨R, hR⟩ : ∃ R, fRoom size = R := ⟨_, rfl⟩
  have hR' : m / 12 = R := by rw [← hm]; exact hR
  rw [hR] at r1 r2 r3
  have s1 : (size : Int) - 8 = (m : Int) := by omega
  have s2 : (m : Int).tdiv 12 = (R : Int) := by rw [← hR']; rfl
  have s3 : (m : Int) / 12 = (R : Int) := by rw [← hR']; rfl
  have hml : m ≤ 4096 := by omega
  have HR := Lib.hid hR
  clear hm hR hR'
  have hc1 : ¬ (size : Int) < 512 := by omega
  have hc2 : ¬ 4096 < (size : Int) := by omega
  go_wp2_with fail
  go_loopw [11, 12] (fun v i wr => ∃ (k : Nat) (Av : Option Addr) (cv : Nat), k ≤ R + 1 ∧ i = .int .i64 (k : Int) ∧ v = .slice Av k cv ∧ wr.ownsRow w.heap.size 51 2 (.slice Av k cv) k (PCs (bdP k)) ∧ Below w.heap.size w wr) (fun _ i _ => R + 1 - (intOf i).toNat)
  case atStart => exact ⟨0, none, 0, by omega, rfl, rfl, World.ownsRow_nil _ _ _ _, hb1⟩
  case round =>
    obtain ⟨k, Av, cv, hkR, rfl, rfl, hown, hbw⟩ := hrel
    clear hb1
    have hbs := hbw.size
    by_cases hlt : k ≤ R
    · have hcw : IntKind.u32.wrap ((k : Int) + 2) = (k : Int) + 2 := IntWalk.u32_in _ (by omega)
      have hcells : PCs (bdP (k + 1)) = PCs (bdP k) ++ [.int .u64 1, .int .u32 ((k : Int) + 2)] := by rw [bdP_succ, PCs_snoc]; rfl
      have HC := Lib.hid hcells
      clear hcells
      go_wp2_with (first
        | (at_builtin; refine wpList_append_any _ rfl (.tmp 54) (.tmp 59) _ rfl w.heap.size 51 ip _ 2 16 Try.underlying28 pi0 pz0 pz1 pz2 rfl (by omega) (.slice Av k cv) k _ rfl (hown.alloc _) (wr.heap.size + 1) (some ⟨wr.heap.size, 0, none⟩) 1 1 [.int .u64 1, .int .u32 ((k : Int) + 2)] rfl (Reads.two _ _ _ _) (by simp [Value.oneCell']) (by unfold maxLen; omega) (by omega) (by simp; omega) ?_; intro v8 w8 hown8 hg8 hat8; obtain ⟨A8, c8, rfl⟩ := own_slice hown8))
      exact ⟨⟨k + 1, A8, c8, by omega, by go_num, rfl, by rw [HC.out]; exact hown8, (hbw.alloc hbs _).grown hg8 (by simp; omega) (fun k hk => own_base hown k hk)⟩, by simp [intOf]; omega⟩
    · obtain rfl : k = R + 1 := by omega
      have hp := Prs.of_own hown
      have hcap : R + 1 ≤ cv := by
        rcases hown.2 with ⟨hv, h0⟩ | ⟨_, _, _, hv, _, _, hc, _⟩
        · omega
        · cases hv; exact hc
      obtain ⟨Ah, hch, hrh⟩ := cut_hN (P := Try.prog) 28 51 .i64 2 Try.underlying28 pi0 pz1 Av (R + 1) cv R (by omega) hcap
      have hph : Prs wr wr.heap.size Ah R (bdP R) := by
        have := hrh wr _ _ hp
        rw [PCs_take, bdP_take] at this
        exact this
      have hRt : FRight (bdP R) (size : Int) := ⟨hS1, hS2, by rw [Int.toNat_natCast, HR.out, bdP_length]; exact Nat.le_refl _, bdP_rise R⟩
      have hRn : ¬ FRight (bdP (R + 1)) (size : Int) := fun h => by
        have := h.2.2.1
        rw [Int.toNat_natCast, HR.out, bdP_length] at this
        omega
      have hmany : fMany ((bdP (R + 1)).length : Int) (size : Int) = 2 := by
        unfold fMany
        rw [if_pos ⟨by rw [bdP_length]; omega, hS1, hS2⟩, Int.toNat_natCast, Int.toNat_natCast, HR.out, bdP_length, Nat.add_sub_cancel, Nat.div_self (by omega)]
        rfl
      have hput1 := fput_is wr _ Ah R cv _ hph (Nat.le_refl _) (bdP_ok R (by omega)) (by omega) 5 (by omega) size hRt
      have HP2 := Lib.hid hRn
      have HMN := Lib.hid hmany
      clear hown hrh hph hRt hRn hmany
      go_wp2_with fail
      refine hput1.mono ?_
      rintro e w2 ⟨g, rfl, _, _, hb2⟩
      have hp2 := hp.below hb2
      have hz2 := hb2.size
      have hbb2 := hbw.trans (hb2.mono hbs)
      clear hput1
      go_wp2_with fail
      refine (fput_no w2 _ Av (R + 1) cv _ hp2 hz2 (bdP_ok (R + 1) (by omega)) (by omega) 5 (by omega) (size : Int) HP2.out).mono ?_
      rintro e w3 ⟨rfl, hb3⟩
      have hp3 := hp2.below (hb3.mono hz2)
      have hz3 := Nat.le_trans hz2 hb3.size
      have hbb3 := hbb2.trans (hb3.mono hbb2.size)
      clear hp hp2
      go_wp2_with fail
      refine (fspread_any w3 _ Av (R + 1) cv _ hp3 hz3 (by omega) 1 (size : Int)).mono ?_
      rintro e w4 ⟨hb4, hcase⟩
      have he : e = .returned (.tuple #[.slice none 0 0, .int .i64 21]) := by
        rcases hcase with ⟨hno, _⟩ | ⟨_, _, he⟩ | ⟨_, hq, _⟩
        · exact absurd ⟨hS1, hS2, by omega, by omega⟩ hno
        · exact he
        · rw [HMN.out] at hq
          omega
      subst he
      have hp4 := hp3.below (hb4.mono hz3)
      have hz4 := Nat.le_trans hz3 hb4.size
      have hbb4 := hbb3.trans (hb4.mono hbb3.size)
      obtain ⟨d, hd⟩ : ∃ d, n % 5 = d := ⟨_, rfl⟩
      have hdl : d < 5 := by omega
      have hd1 : (n : Int).tmod 5 = (d : Int) := by rw [Int.tmod_eq_emod_of_nonneg (by omega)]; omega
      have hd2 : (n : Int) % 5 = (d : Int) := by omega
      have hw2 : IntKind.i64.wrap (2 + (d : Int)) = 2 + (d : Int) := IntWalk.i64_in _ (by omega)
      clear hcase hp3 hd
      go_wp2_with fail
      refine (fspread_any w4 _ Av (R + 1) cv _ hp4 hz4 (by omega) (2 + (d : Int)) (size : Int)).mono ?_
      rintro e w5 ⟨hb5, hcase⟩
      rcases hcase with ⟨hno, _⟩ | ⟨_, hq, _⟩ | ⟨_, _, As, cs', css, rfl, hown5, hrows⟩
      · exact absurd ⟨hS1, hS2, by omega, by omega⟩ hno
      · rw [HMN.out] at hq
        omega
      have h2 : Int.toNat (2 + (d : Int)) = d + 2 := by omega
      rw [h2] at hown5 hrows ⊢
      rw [Int.toNat_natCast, HR.out] at hrows
      have hbb5 := hbb4.trans (hb5.mono hbb4.size)
      obtain ⟨A0, n0, g0, p0⟩ := hrows.2 0 (by omega)
      obtain ⟨A1, n1, g1, p1⟩ := hrows.2 1 (by omega)
      have e0 : n0 = R := by have := p0.len; rw [← this, Nat.zero_mul, List.drop_zero, bdP_take, bdP_length]
      have e1 : n1 = 1 := by have := p1.len; rw [← this, Nat.one_mul, bdP_drop]; simp; omega
      subst e0 e1
      obtain ⟨ads, rfl, _, hcs⟩ := (Reads.of_own hown5).2 (by omega)
      have k0 : w5.cell? ads = some (.slice A0 n0 n0) := hcs 0 _ g0
      have k1 : w5.cell? ⟨ads.block, ads.off + 1, none⟩ = some (.slice A1 1 1) := hcs 1 _ g1
      clear hown5 hrows p0 p1 hcs g0 g1
      have hdd : ((d : Int) + 2 == 2 + (d : Int)) = true := by simp; omega
      have hd0 : (0 : Int) < (d : Int) + 2 := by omega
      have hd3 : (1 : Int) < (d : Int) + 2 := by omega
      go_wp2_with fail
      go_ret
      exact ⟨by simp, hbb5⟩

end Go.Proofs.Ythmkmojlnfkfjaa
