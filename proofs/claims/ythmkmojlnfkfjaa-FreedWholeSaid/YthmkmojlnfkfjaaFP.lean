/- Layer 10: pairs in memory; may, room, Many, compare. -/
import Derived.Test.YthmkmojlnfkfjaaOctRn
namespace Go.Proofs.Ythmkmojlnfkfjaa
open Go.RowKit
set_option linter.unusedVariables false
set_option linter.unusedSimpArgs false

/-- A pair: the change, the page. -/
abbrev FP := Nat × Nat
def FPok (p : FP) : Prop := p.1 < 18446744073709551616 ∧ p.2 < 4294967296
def FPs (ps : List FP) : Prop := ∀ p ∈ ps, FPok p
def pCs (p : FP) : List Value := [.int .u64 (p.1 : Int), .int .u32 (p.2 : Int)]
def PCs (ps : List FP) : List Value := ps.flatMap pCs
theorem PCs_nil : PCs [] = [] := rfl
theorem PCs_append (a b : List FP) : PCs (a ++ b) = PCs a ++ PCs b := by simp [PCs]
theorem PCs_snoc (ps : List FP) (p : FP) : PCs (ps ++ [p]) = PCs ps ++ [.int .u64 (p.1 : Int), .int .u32 (p.2 : Int)] := by simp [PCs, pCs]
theorem PCs_length (ps : List FP) : (PCs ps).length = ps.length * 2 := by
  induction ps with
  | nil => rfl
  | cons p ps ih => simp [PCs, pCs] at ih ⊢; omega
theorem PCs_one (ps : List FP) : ∀ u ∈ PCs ps, u.oneCell' = true := by
  intro u hu
  simp only [PCs, pCs, List.mem_flatMap] at hu
  obtain ⟨p, _, hu⟩ := hu
  simp at hu
  rcases hu with rfl | rfl <;> rfl
theorem PCs_drop (ps : List FP) (k : Nat) : (PCs ps).drop (k * 2) = PCs (ps.drop k) := by
  induction ps generalizing k with
  | nil => simp [PCs]
  | cons p ps ih =>
    cases k with
    | zero => simp
    | succ k =>
      have := ih k
      rw [show (k + 1) * 2 = (k * 2 + 1) + 1 by omega]
      simp only [PCs, pCs, List.flatMap_cons, List.cons_append, List.nil_append, List.drop_succ_cons] at this ⊢
      exact this
theorem PCs_take (ps : List FP) (k : Nat) : (PCs ps).take (k * 2) = PCs (ps.take k) := by
  induction ps generalizing k with
  | nil => simp [PCs]
  | cons p ps ih =>
    cases k with
    | zero => simp [PCs]
    | succ k =>
      have := ih k
      rw [show (k + 1) * 2 = (k * 2 + 1) + 1 by omega]
      simp only [PCs, pCs, List.flatMap_cons, List.cons_append, List.nil_append, List.take_succ_cons] at this ⊢
      rw [this]
theorem PCs_at {ps : List FP} {i : Nat} {p : FP} (h : ps[i]? = some p) : (PCs ps)[i * 2]? = some (.int .u64 (p.1 : Int)) ∧ (PCs ps)[i * 2 + 1]? = some (.int .u32 (p.2 : Int)) := by
  have hd : ps.drop i = p :: ps.drop (i + 1) := by
    obtain ⟨hi, rfl⟩ := List.getElem?_eq_some_iff.1 h
    exact List.drop_eq_getElem_cons hi
  have e := PCs_drop ps i
  rw [hd] at e
  have e0 : ((PCs ps).drop (i * 2))[0]? = some (.int .u64 (p.1 : Int)) := by rw [e]; rfl
  have e1 : ((PCs ps).drop (i * 2))[1]? = some (.int .u32 (p.2 : Int)) := by rw [e]; rfl
  rw [List.getElem?_drop] at e0 e1
  exact ⟨e0, e1⟩

/-- A slice of pairs, in rows below block B, reads so. -/
def Prs (w : World) (B : Nat) (A : Option Addr) (n : Nat) (ps : List FP) : Prop := Reads w B 2 A n (PCs ps)
section
variable {w w' : World} {B B' n : Nat} {A : Option Addr} {ps : List FP}
theorem Prs.len (h : Prs w B A n ps) : ps.length = n := by have := h.1; rw [PCs_length] at this; omega
theorem Prs.below (h : Prs w B A n ps) (hb : Below B w w') : Prs w' B A n ps := Reads.below h hb
theorem Prs.more (h : Prs w B A n ps) (hB : B ≤ B') : Prs w B' A n ps := Reads.more h hB
theorem Prs.nil_ : Prs w B A 0 [] := ⟨rfl, fun h => absurd h (by omega)⟩
theorem Prs.get (h : Prs w B A n ps) {k : Nat} (hk : k < n) : ∃ ad p, A = some ad ∧ ad.block < B ∧ ps[k]? = some p ∧ w.cell? (ad.add (k * 2)) = some (.int .u64 (p.1 : Int)) ∧
    w.cell? ⟨(ad.add (k * 2)).block, (ad.add (k * 2)).off + 1, none⟩ = some (.int .u32 (p.2 : Int)) := by
  obtain ⟨p, hp⟩ : ∃ p, ps[k]? = some p := ⟨_, List.getElem?_eq_getElem (by rw [h.len]; exact hk)⟩
  have h : Reads w B 2 A n (PCs ps) := h
  obtain ⟨ad, e, hb, hc⟩ := h.2 (by omega)
  obtain ⟨h0, h1⟩ := PCs_at hp
  exact ⟨ad, p, e, hb, hp, hc _ _ h0, by have := hc _ _ h1; rw [← add_of_add] at this; exact this⟩
theorem Prs.of_own {base c : Nat} {e : TypeId} (h : w.ownsRow base e 2 (.slice A n c) n (PCs ps)) : Prs w w.heap.size A n ps := Reads.of_own h
end

theorem fmay_any (S : Int) (w : World) : Calls Try.prog 28 #[.int .i64 S] w fun e w' => e = .returned (.bool (decide (512 ≤ S ∧ S ≤ 4096))) ∧ w = w' := by
  by_cases h : 512 ≤ S ∧ S ≤ 4096
  · obtain ⟨h1, h2⟩ := h
    go_enter Try.func28, Try.ntmps28
    go_wp2
    go_ret
    exact ⟨by simp [h1, h2], rfl⟩
  · by_cases h1 : 512 ≤ S
    all_goals
      have h2 : ¬ S ≤ 4096 ∨ ¬ 512 ≤ S := by omega
      go_enter Try.func28, Try.ntmps28
      go_wp2
      go_ret
      exact ⟨by first | (simp; omega) | (simp; done), rfl⟩
theorem fmay_yes {S : Int} (h1 : 512 ≤ S) (h2 : S ≤ 4096) (w : World) : Calls Try.prog 28 #[.int .i64 S] w fun e w' => e = .returned (.bool true) ∧ w = w' := by
  have := fmay_any S w
  rwa [decide_eq_true ⟨h1, h2⟩] at this
theorem fmay_no {S : Int} (h : ¬ (512 ≤ S ∧ S ≤ 4096)) (w : World) : Calls Try.prog 28 #[.int .i64 S] w fun e w' => e = .returned (.bool false) ∧ w = w' := by
  have := fmay_any S w
  rwa [decide_eq_false h] at this

/-- How many pairs go into a page. -/
def fRoom (size : Nat) : Nat := (size - 8) / 12
theorem fRoom_bounds {size : Nat} (h1 : 512 ≤ size) (h2 : size ≤ 4096) : 42 ≤ fRoom size ∧ fRoom size ≤ 340 ∧ 8 + fRoom size * 12 ≤ size := by unfold fRoom; omega
theorem froom_any (size : Nat) (h1 : 512 ≤ size) (h2 : size ≤ 4096) (w : World) : Calls Try.prog 30 #[.int .i64 (size : Int)] w fun e w' => e = .returned (.int .i64 (fRoom size : Nat)) ∧ w = w' := by
  obtain ⟨m, hm⟩ : ∃ m, size - 8 = m := ⟨_, rfl⟩
  obtain ⟨q, hq⟩ : ∃ q, m / 12 = q := ⟨_, rfl⟩
  have e : fRoom size = q := by unfold fRoom; rw [hm, hq]
  rw [e]
  have s1 : (size : Int) - 8 = (m : Int) := by omega
  have s2 : (m : Int).tdiv 12 = (q : Int) := by rw [← hq]; rfl
  have s3 : (m : Int) / 12 = (q : Int) := by rw [← hq]; rfl
  have hq1 : q ≤ 4096 := by omega
  have hm1 : m ≤ 4096 := by omega
  clear e hm hq
  go_enter Try.func30, Try.ntmps30
  go_wp2
  go_ret
  exact ⟨rfl, rfl⟩

/-- How many pages pairs need. -/
def fMany (N S : Int) : Int := if 1 ≤ N ∧ 512 ≤ S ∧ S ≤ 4096 then ((N.toNat - 1) / fRoom S.toNat + 1 : Nat) else 0
theorem fmany_any (w : World) (N S : Int) (hN : N ≤ 9223372036854775807) (hN' : -9223372036854775808 ≤ N) :
    Calls Try.prog 26 #[.int .i64 N, .int .i64 S] w fun e w' => e = .returned (.int .i64 (fMany N S)) ∧ w' = w := by
  by_cases h1 : 1 ≤ N
  · obtain ⟨n, rfl⟩ := Int.eq_ofNat_of_zero_le (show 0 ≤ N by omega)
    have hd : decide ((n : Int) < 1) = false := decide_eq_false (by omega)
    by_cases h2 : 512 ≤ S ∧ S ≤ 4096
    · obtain ⟨size, rfl⟩ := Int.eq_ofNat_of_zero_le (show 0 ≤ S by omega)
      obtain ⟨hs1, hs2⟩ := h2
      obtain ⟨r1, r2, _⟩ := fRoom_bounds (size := size) (by omega) (by omega)
      obtain ⟨m, hm⟩ : ∃ m, fRoom size = m := ⟨_, rfl⟩
      obtain ⟨n1, hn1⟩ : ∃ n1, n - 1 = n1 := ⟨_, rfl⟩
      obtain ⟨q, hq⟩ : ∃ q, n1 / m = q := ⟨_, rfl⟩
      have hroom := fun W => froom_any size (by omega) (by omega) W
      rw [hm] at r1 r2 hroom
      have hv : fMany (n : Int) (size : Int) = (q : Int) + 1 := by
        unfold fMany
        rw [if_pos ⟨by omega, hs1, hs2⟩]
        simp only [Int.toNat_natCast]
        rw [hm, hn1, hq]
        simp
      rw [hv]
      have hni : (n : Int) - 1 = (n1 : Int) := by omega
      have hqb : q ≤ n1 := by rw [← hq]; exact Nat.div_le_self _ _
      have hqn : q < 9223372036854775807 := by omega
      have hti : (n1 : Int).tdiv (m : Int) = (q : Int) := by rw [← hq]; rfl
      clear hv hq hm hn1
      go_enter Try.func26, Try.ntmps26
      go_wp2_with (first
        | (go_at_call 28; refine (fmay_yes hs1 hs2 _).mono ?_; rintro e w' ⟨rfl, rfl⟩)
        | (go_at_call 30; refine (hroom _).mono ?_; rintro e w' ⟨rfl, rfl⟩))
      go_ret
      exact ⟨rfl, rfl⟩
    · have hv : fMany (n : Int) S = 0 := by unfold fMany; exact if_neg (fun hh => h2 hh.2)
      rw [hv]
      go_enter Try.func26, Try.ntmps26
      go_wp2_with (first
        | (go_at_call 28; refine (fmay_no h2 _).mono ?_; rintro e w' ⟨rfl, rfl⟩))
      go_ret
      exact ⟨rfl, rfl⟩
  · have hv : fMany N S = 0 := by unfold fMany; exact if_neg (fun hh => h1 hh.1)
    have hd : decide (N < 1) = true := decide_eq_true (by omega)
    rw [hv]
    go_enter Try.func26, Try.ntmps26
    go_wp2
    go_ret
    exact ⟨rfl, rfl⟩

def cmpN (a b : Nat) : Int := if a < b then -1 else if b < a then 1 else 0
/-- How two pairs stand. -/
def cmpP (a b : FP) : Int := if cmpN a.1 b.1 ≠ 0 then cmpN a.1 b.1 else cmpN a.2 b.2
theorem nan_u64 (a : Int) (w : World) : Calls Try.prog 53 #[.int .u64 a] w fun e w' => e = .returned (.bool false) ∧ w = w' := by
  go_enter Try.func53, Try.ntmps53
  go_wp2
  go_ret
  exact ⟨by simp, rfl⟩
theorem nan_u32 (a : Int) (w : World) : Calls Try.prog 54 #[.int .u32 a] w fun e w' => e = .returned (.bool false) ∧ w = w' := by
  go_enter Try.func54, Try.ntmps54
  go_wp2
  go_ret
  exact ⟨by simp, rfl⟩
theorem cmp_u64 (a b : Nat) (w : World) : Calls Try.prog 46 #[.int .u64 (a : Int), .int .u64 (b : Int)] w fun e w' => e = .returned (.int .i64 (cmpN a b)) ∧ w = w' := by
  unfold cmpN
  rcases Nat.lt_trichotomy a b with h | h | h
  all_goals
    have h1 : decide ((a : Int) < (b : Int)) = decide (a < b) := by simp
    have h2 : decide ((b : Int) < (a : Int)) = decide (b < a) := by simp
    first | rw [if_pos h] | rw [if_neg (by omega), if_neg (by omega)] | rw [if_neg (by omega), if_pos h]
  · have h3 : (a : Int) < (b : Int) := by omega
    go_enter Try.func46, Try.ntmps46
    go_wp2_with (first | (go_at_call 53; refine (nan_u64 _ _).mono ?_; rintro e w' ⟨rfl, rfl⟩))
    go_ret
    exact ⟨rfl, rfl⟩
  · subst h
    go_enter Try.func46, Try.ntmps46
    go_wp2_with (first | (go_at_call 53; refine (nan_u64 _ _).mono ?_; rintro e w' ⟨rfl, rfl⟩))
    go_ret
    exact ⟨rfl, rfl⟩
  · have h3 : (b : Int) < (a : Int) := by omega
    have h4 : ¬ (a : Int) < (b : Int) := by omega
    go_enter Try.func46, Try.ntmps46
    go_wp2_with (first | (go_at_call 53; refine (nan_u64 _ _).mono ?_; rintro e w' ⟨rfl, rfl⟩))
    go_ret
    exact ⟨rfl, rfl⟩
theorem cmp_u32 (a b : Nat) (w : World) : Calls Try.prog 47 #[.int .u32 (a : Int), .int .u32 (b : Int)] w fun e w' => e = .returned (.int .i64 (cmpN a b)) ∧ w = w' := by
  unfold cmpN
  rcases Nat.lt_trichotomy a b with h | h | h
  all_goals
    first | rw [if_pos h] | rw [if_neg (by omega), if_neg (by omega)] | rw [if_neg (by omega), if_pos h]
  · have h3 : (a : Int) < (b : Int) := by omega
    go_enter Try.func47, Try.ntmps47
    go_wp2_with (first | (go_at_call 54; refine (nan_u32 _ _).mono ?_; rintro e w' ⟨rfl, rfl⟩))
    go_ret
    exact ⟨rfl, rfl⟩
  · subst h
    go_enter Try.func47, Try.ntmps47
    go_wp2_with (first | (go_at_call 54; refine (nan_u32 _ _).mono ?_; rintro e w' ⟨rfl, rfl⟩))
    go_ret
    exact ⟨rfl, rfl⟩
  · have h3 : (b : Int) < (a : Int) := by omega
    have h4 : ¬ (a : Int) < (b : Int) := by omega
    go_enter Try.func47, Try.ntmps47
    go_wp2_with (first | (go_at_call 54; refine (nan_u32 _ _).mono ?_; rintro e w' ⟨rfl, rfl⟩))
    go_ret
    exact ⟨rfl, rfl⟩
theorem or_two (w : World) (g : Nat) (x y : Int) (h0 : w.cell? ⟨g, 0, none⟩ = some (.int .i64 x)) (h1 : w.cell? ⟨g, 1, none⟩ = some (.int .i64 y)) :
    Calls Try.prog 45 #[.slice (some ⟨g, 0, none⟩) 2 2] w fun e w' => e = .returned (.int .i64 (if x ≠ 0 then x else y)) ∧ w = w' := by
  go_enter Try.func45, Try.ntmps45
  go_wp2_with fail
  go_loopw [8] (fun i wr => ∃ k : Nat, k ≤ 2 ∧ i = .int .i64 (k : Int) ∧ (1 ≤ k → x = 0) ∧ (2 ≤ k → y = 0) ∧ wr = w) (fun i _ => 2 - (intOf i).toNat)
  case atStart => exact ⟨0, by omega, rfl, fun h => absurd h (by omega), fun h => absurd h (by omega), rfl⟩
  case round =>
    obtain ⟨k, hk, rfl, hx, hy, rfl⟩ := hrel
    rcases (by omega : k = 0 ∨ k = 1 ∨ k = 2) with rfl | rfl | rfl
    · by_cases hx0 : x = 0
      · subst hx0
        go_wp2_with fail
        exact ⟨⟨1, by omega, rfl, by intros; first | rfl | trivial | omega, by intros; first | rfl | trivial | omega, by first | rfl | trivial⟩, by simp [intOf]⟩
      · have hd : (x != 0) = true := by simp [hx0]
        clear hx hy
        go_wp2_with fail
        go_ret
        exact ⟨by simp, rfl⟩
    · obtain rfl := hx (Nat.le_refl _)
      by_cases hy0 : y = 0
      · subst hy0
        go_wp2_with fail
        exact ⟨⟨2, by omega, rfl, by intros; first | rfl | trivial | omega, by intros; first | rfl | trivial | omega, by first | rfl | trivial⟩, by simp [intOf]⟩
      · have hd : (y != 0) = true := by simp [hy0]
        clear hx hy
        go_wp2_with fail
        go_ret
        exact ⟨by simp, rfl⟩
    · obtain rfl := hx (by omega)
      obtain rfl := hy (Nat.le_refl _)
      clear hx hy
      go_wp2_with fail
      go_ret
      exact ⟨by simp, rfl⟩
end Go.Proofs.Ythmkmojlnfkfjaa
