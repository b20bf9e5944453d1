/- The reference's Room, Many, Row (layer 10); a slice of pairs that came in. -/
import Derived.Test.YthmkmojlnfkfjaaFPairs
import Derived.Deep.Slices
import Derived.Deep.Fields
import Derived.ChangeSame
import Derived.ChangeArms
import Derived.ChangeSlices
import Derived.OpenShut
namespace Go.Proofs.Ythmkmojlnfkfjaa
open Go.RowKit Go.ChangeShapes Go.WideShapes Go.Deep
set_option linter.unusedVariables false
set_option linter.unusedSimpArgs false

theorem info_refp : (Try.prog.info? 74).map (fun i => (i.zero, i.size, i.bytes)) = some (some (.agg #[.int .u64 0, .int .u32 0]), 2, 16) := by kernel_rfl
theorem Reads.at_two {w : World} {B size n : Nat} {A : Option Addr} {xs : List Value} (h : Reads w B size A n xs) (hn : 0 < n) : ∃ ad, A = some ad ∧ ad.block < B ∧ ∀ j u, xs[j]? = some u → w.cell? (ad.add j) = some u := h.2 hn
theorem rroom_any (size : Nat) (h1 : 512 ≤ size) (h2 : size ≤ 4096) (w : World) : Calls Try.prog 31 #[.int .i64 (size : Int)] w fun e w' => e = .returned (.int .i64 (fRoom size : Nat)) ∧ w = w' := by
  obtain ⟨m, hm⟩ : ∃ m, size - 8 = m := ⟨_, rfl⟩
  obtain ⟨q, hq⟩ : ∃ q, m / 12 = q := ⟨_, rfl⟩
  have e : fRoom size = q := by unfold fRoom; rw [hm, hq]
  rw [e]
  have s1 : (size : Int) - 8 = (m : Int) := by omega
  have s2 : (m : Int).tdiv 12 = (q : Int) := by rw [← hq]; rfl
  have s3 : (m : Int) / 12 = (q : Int) := by rw [← hq]; rfl
  have hq1 : q ≤ 4096 := by omega
  have hm1 : m ≤ 4096 := by omega
  clear e hm hq
  go_enter Try.func31, Try.ntmps31
  go_wp2
  go_ret
  exact ⟨rfl, rfl⟩

theorem ceil_up (n m : Nat) (hm : 0 < m) (h : n / m * m < n) : n / m + 1 = (n - 1) / m + 1 := by
  have h1 : (n - 1) / m = n / m := by
    apply Nat.div_eq_of_lt_le
    · omega
    · have := Nat.lt_div_mul_add hm (a := n)
      rw [Nat.succ_mul]
      omega
  rw [h1]
theorem ceil_eq (n m : Nat) (hm : 0 < m) (hn : 0 < n) (h : ¬ n / m * m < n) : n / m = (n - 1) / m + 1 := by
  have h1 : n / m * m ≤ n := Nat.div_mul_le_self n m
  have h2 : n / m * m = n := by omega
  have h3 : 0 < n / m := by
    rcases Nat.eq_zero_or_pos (n / m) with h0 | h0
    · rw [h0] at h2; omega
    · exact h0
  obtain ⟨q, hq⟩ : ∃ q, n / m = q + 1 := ⟨n / m - 1, by omega⟩
  rw [hq] at h2 ⊢
  congr 1
  symm
  rw [Nat.succ_mul] at h2
  apply Nat.div_eq_of_lt_le
  · omega
  · rw [Nat.succ_mul]; omega

theorem rmany_any (w : World) (N S : Int) (hN : N ≤ 9223372036854775807) (hN' : -9223372036854775808 ≤ N) :
    Calls Try.prog 12 #[.int .i64 N, .int .i64 S] w fun e w' => e = .returned (.int .i64 (fMany N S)) ∧ w' = w := by
  by_cases h1 : 1 ≤ N ∧ 512 ≤ S ∧ S ≤ 4096
  · obtain ⟨h1, hs1, hs2⟩ := h1
    obtain ⟨n, rfl⟩ := Int.eq_ofNat_of_zero_le (show 0 ≤ N by omega)
    obtain ⟨size, rfl⟩ := Int.eq_ofNat_of_zero_le (show 0 ≤ S by omega)
    obtain ⟨r1, r2, _⟩ := fRoom_bounds (size := size) (by omega) (by omega)
    obtain ⟨m, hm⟩ : ∃ m, fRoom size = m := ⟨_, rfl⟩
    obtain ⟨q, hq⟩ : ∃ q, n / m = q := ⟨_, rfl⟩
    have hroom := fun W => rroom_any size (by omega) (by omega) W
    rw [hm] at r1 r2 hroom
    have hv : fMany (n : Int) (size : Int) = (if q * m < n then (q : Int) + 1 else (q : Int)) := by
      unfold fMany
      rw [if_pos ⟨by omega, hs1, hs2⟩]
      simp only [Int.toNat_natCast]
      rw [hm]
      split
      · rename_i h
        rw [← ceil_up n m (by omega) (by rw [hq]; exact h), hq]
        rfl
      · rename_i h
        rw [← ceil_eq n m (by omega) (by omega) (by rw [hq]; exact h), hq]
    rw [hv]
    have hqm : q * m ≤ n := by rw [← hq]; exact Nat.div_mul_le_self n m
    have hqn : q ≤ n := by rw [← hq]; exact Nat.div_le_self _ _
    have hti : (n : Int).tdiv (m : Int) = (q : Int) := by rw [← hq]; rfl
    have htd : (n : Int) / (m : Int) = (q : Int) := by rw [← hq]; rfl
    obtain ⟨p, hp⟩ : ∃ p, q * m = p := ⟨_, rfl⟩
    have hpi : (q : Int) * (m : Int) = (p : Int) := by rw [← hp]; rfl
    rw [hp] at hqm
    rw [hp]
    have hd1 : decide ((n : Int) < 1) = false := decide_eq_false (by omega)
    have hd2 : decide ((size : Int) < 512) = false := decide_eq_false (by omega)
    have hd3 : decide (4096 < (size : Int)) = false := decide_eq_false (by omega)
    have hql : p < n → q + 1 ≤ n := fun h => by
      rcases Nat.lt_or_ge q n with h9 | h9
      · omega
      · have : n * 1 ≤ q * m := Nat.mul_le_mul h9 (by omega)
        omega
    clear hv hq hm hp
    by_cases hlt : p < n
    · rw [if_pos hlt]
      have hql := hql hlt
      go_enter Try.func12, Try.ntmps12
      go_wp2_with (first
        | (go_at_call 31; refine (hroom _).mono ?_; rintro e w' ⟨rfl, rfl⟩))
      go_ret
      exact ⟨rfl, rfl⟩
    · rw [if_neg hlt]
      clear hql
      go_enter Try.func12, Try.ntmps12
      go_wp2_with (first
        | (go_at_call 31; refine (hroom _).mono ?_; rintro e w' ⟨rfl, rfl⟩))
      go_ret
      exact ⟨rfl, rfl⟩
  · have hv : fMany N S = 0 := by unfold fMany; exact if_neg h1
    rw [hv]
    by_cases hc : N < 1
    · have hd : decide (N < 1) = true := decide_eq_true hc
      go_enter Try.func12, Try.ntmps12
      go_wp2
      go_ret
      exact ⟨rfl, rfl⟩
    · by_cases hc2 : S < 512
      · have hd : decide (N < 1) = false := decide_eq_false hc
        have hd2 : decide (S < 512) = true := decide_eq_true hc2
        go_enter Try.func12, Try.ntmps12
        go_wp2
        go_ret
        exact ⟨rfl, rfl⟩
      · have hd : decide (N < 1) = false := decide_eq_false hc
        have hd2 : decide (S < 512) = false := decide_eq_false hc2
        have hd3 : decide (4096 < S) = true := decide_eq_true (by omega)
        go_enter Try.func12, Try.ntmps12
        go_wp2
        go_ret
        exact ⟨rfl, rfl⟩

/-- s[l:h] of elements of any size. -/
theorem cut_lhN {P : Program} (t e : TypeId) (kl kh : IntKind) {i : TypeInfo} (size : Nat) (ht : P.underlying t = some (.slice e)) (hi : P.info? e = some i) (hsz : i.size = size) (A : Option Addr) (n c l h : Nat) (hl : l < h) (hm : h ≤ n) (hc : n ≤ c) :
    ∃ A' : Option Addr, (∀ W : World, (Instr.slice t (.slice A n c) (some (.int kl (l : Int))) (some (.int kh (h : Int))) none).run P W = .ok (.slice A' (h - l) (c - l)) W) ∧
      ∀ (w : World) (B : Nat) (xs : List Value), Reads w B size A n xs → Reads w B size A' (h - l) ((xs.take (h * size)).drop (l * size)) := by
  refine ⟨if c = l then A else A.map (·.add (l * size)), fun W => ?_, fun w B xs hr => ⟨?_, fun hn => ?_⟩⟩
  · have hel : P.elem t = e := by simp [Program.elem, ht]
    have hu : P.underlying t = some (.slice (P.elem t)) := by rw [hel]; exact ht
    rw [run_slice_lh W t A n c hu kl kh (l : Int) (h : Int) (Int.natCast_nonneg _) (by omega) (by omega), hel]
    simp [sizeOf, typeInfo, hi, hsz, sliced, Result.andThen]
  · have := hr.1
    have h2 : h * size ≤ n * size := Nat.mul_le_mul_right _ hm
    rw [List.length_drop, List.length_take, Nat.sub_mul]
    omega
  · obtain ⟨ad, rfl, hb, hcell⟩ := hr.2 (by omega)
    rw [if_neg (by omega)]
    refine ⟨ad.add (l * size), rfl, by rw [block_of_add]; exact hb, fun j u hu => ?_⟩
    rw [add_of_add]
    refine hcell _ u ?_
    rw [List.getElem?_drop, List.getElem?_take] at hu
    split at hu
    · exact hu
    · cases hu

/-- Row: the pairs of a page. -/
theorem frow_any (w : World) (B : Nat) (A : Option Addr) (n c : Nat) (ps : List FP) (h : Prs w B A n ps) (hnc : n ≤ c) (hn : n ≤ 1000000) (page size : Nat) (h1 : 512 ≤ size) (h2 : size ≤ 4096) (hp : page ≤ 1000000) :
    Calls Try.prog 14 #[.slice A n c, .int .i64 (page : Int), .int .i64 (size : Int)] w fun e w' => ∃ A' n' c', e = .returned (.slice A' n' c') ∧ Prs w B A' n' ((ps.drop (page * fRoom size)).take (fRoom size)) ∧ n' ≤ 1000000 ∧ w = w' := by
  obtain ⟨ip, pi0, pz0, pz1, pz2⟩ := info_parts info_refp
  obtain ⟨r1, r2, _⟩ := fRoom_bounds (size := size) h1 h2
  have hlen := h.len
  obtain ⟨m, hm⟩ : ∃ m, fRoom size = m := ⟨_, rfl⟩
  have hroom := fun W => rroom_any size h1 h2 W
  rw [hm] at r1 r2 hroom ⊢
  obtain ⟨f, hf⟩ : ∃ f, page * m = f := ⟨_, rfl⟩
  have hfi : (page : Int) * (m : Int) = (f : Int) := by rw [← hf]; rfl
  have hfb : f ≤ 1000000 * 340 := by rw [← hf]; exact Nat.mul_le_mul hp r2
  rw [hf]
  clear hm hf
  by_cases hge : n ≤ f
  · have hd : decide ((n : Int) ≤ (f : Int)) = true := decide_eq_true (by omega)
    have hd' : (n : Int) ≤ (f : Int) := by omega
    go_enter Try.func14, Try.ntmps14
    go_wp2_with (first
      | (go_at_call 31; refine (hroom _).mono ?_; rintro e w' ⟨rfl, rfl⟩))
    go_ret
    refine ⟨none, 0, 0, rfl, ?_, by omega, rfl⟩
    rw [List.drop_of_length_le (by omega), List.take_nil]
    exact Prs.nil_
  · obtain ⟨t, ht⟩ : ∃ t, min n (f + m) = t := ⟨_, rfl⟩
    have ht1 : f < t := by omega
    have ht2 : t ≤ n := by omega
    obtain ⟨A', hrun, hrd⟩ := cut_lhN (P := Try.prog) 22 74 .i64 .i64 2 Try.underlying22 pi0 pz1 A n c f t ht1 ht2 hnc
    have hmin : (if (f : Int) + (m : Int) < (n : Int) then (f : Int) + (m : Int) else (n : Int)) = (t : Int) := by split <;> omega
    have hd' : ¬ (n : Int) ≤ (f : Int) := by omega
    go_enter Try.func14, Try.ntmps14
    go_wp2_with (first
      | (go_at_call 31; refine (hroom _).mono ?_; rintro e w' ⟨rfl, rfl⟩))
    go_ret
    refine ⟨A', t - f, c - f, rfl, ?_, by omega, rfl⟩
    have := hrd w B _ h
    rw [PCs_take, PCs_drop, List.drop_take] at this
    have e : (ps.drop f).take m = (ps.drop f).take (t - f) := by
      by_cases hx : n < f + m
      · rw [List.take_of_length_le (by rw [List.length_drop]; omega), List.take_of_length_le (by rw [List.length_drop]; omega)]
      · rw [show t - f = m by omega]
    rw [e]
    exact this

set_option maxRecDepth 10000 in

/-- Pairs that came in. -/
theorem ps_of_trod {H : Type} {enc : TypeId × Value → H} {w : World} {fuel : Nat} {cs : List Value} {x : DataW H × List MemPlace}
    (h : DataW.trod enc Try.prog w 0 (fun _ => true) true fuel 22 cs = some x) :
    ∃ (A : Option Addr) (n c : Nat), cs = [.slice A n c] ∧ n ≤ c ∧ c ≤ maxLen ∧ ∃ ps, Prs w w.heap.size A n ps ∧ FPs ps := by
  have hC : Try.prog.cellsOf 74 = 2 := by kernel_rfl
  rcases open_slice Try.underlying22 h with ⟨hcs, _⟩ | ⟨a, len, cap, m, n, D, Pl, hcs, hb, hl, hm, hmm, hx, hi⟩
  · exact ⟨none, 0, 0, hcs, Nat.le_refl _, Nat.zero_le _, [], Prs.nil_, by intro p hp; cases hp⟩
  · refine ⟨some a, len, cap, hcs, hl, hm, ?_⟩
    have key : ∀ i, i < len → ∃ p : FP, FPok p ∧ a.block < w.heap.size ∧ w.cell? (a.add (i * 2)) = some (.int .u64 (p.1 : Int)) ∧ w.cell? (a.add (i * 2 + 1)) = some (.int .u32 (p.2 : Int)) := by
      intro i hlt
      obtain ⟨cs', hc, ht'⟩ := hi i (by rw [hmm]; simp; omega)
      rw [hC] at hc
      obtain ⟨ys, n', hn', hy, hlen, hyl, hf⟩ := DataW.trod_struct Try.underlying74 ht'
      rw [hC] at hlen
      obtain ⟨_, hcl, hat⟩ := World.cells?_some hc
      match cs', hlen, hat, hf with
      | [c0, c1], _, hat, hf =>
        have g0 : DataW.trod enc Try.prog w 0 (fun _ => true) true n' 49 (([c0, c1].drop 0).take (Try.prog.cellsOf 49)) = ys[0]? := hf 0 _ rfl
        have g1 : DataW.trod enc Try.prog w 0 (fun _ => true) true n' 34 (([c0, c1].drop 1).take (Try.prog.cellsOf 34)) = ys[1]? := hf 1 _ rfl
        have q0 := hat 0 (by decide)
        have q1 := hat 1 (by decide)
        have s0 : ys[0]? = some (ys[0]'(by rw [hyl]; decide)) := List.getElem?_eq_getElem _
        have s1 : ys[1]? = some (ys[1]'(by rw [hyl]; decide)) := List.getElem?_eq_getElem _
        have k0 : Try.prog.cellsOf 49 = 1 := by kernel_rfl
        have k1 : Try.prog.cellsOf 34 = 1 := by kernel_rfl
        rw [s0] at g0
        rw [s1] at g1
        rw [k0] at g0
        rw [k1] at g1
        simp only [List.drop_zero, List.drop_succ_cons, List.take_succ_cons, List.take_zero] at g0 g1
        obtain ⟨v0, e0, _, w0⟩ := DataW.trod_int Try.underlying49 g0
        obtain ⟨v1, e1, _, w1⟩ := DataW.trod_int Try.underlying34 g1
        have e0' : c0 = _ := List.head_eq_of_cons_eq e0
        have e1' : c1 = _ := List.head_eq_of_cons_eq e1
        rw [e0'] at q0
        rw [e1'] at q1
        have q0' : w.cell? (a.add (i * 2)) = some (.int .u64 v0) := by rw [Addr.add_zero'] at q0; exact q0
        have b0 := bounds_u64 w0
        have b1 := bounds_u32 w1
        obtain ⟨x0, rfl⟩ := Int.eq_ofNat_of_zero_le b0.1
        obtain ⟨x1, rfl⟩ := Int.eq_ofNat_of_zero_le b1.1
        have hbl := World.block_lt_of_cell? w _ q0'
        rw [block_of_add] at hbl
        exact ⟨(x0, x1), ⟨by show x0 < _; omega, by show x1 < _; omega⟩, hbl, q0', by rw [← add_of_add]; exact q1⟩
    clear hi hx hb
    have : ∀ n, n ≤ len → ∃ ps : List FP, Prs w w.heap.size (some a) n ps ∧ FPs ps := by
      intro n
      induction n with
      | zero => intro _; exact ⟨[], Prs.nil_, by intro p hp; cases hp⟩
      | succ n ih =>
        intro hn
        obtain ⟨ps, h1, h2⟩ := ih (by omega)
        have h1l := h1.len
        obtain ⟨p, hp, hb, c0, c1⟩ := key n (by omega)
        refine ⟨ps ++ [p], ⟨by rw [PCs_length]; simp [h1l], fun _ => ⟨a, rfl, hb, fun j u hu => ?_⟩⟩, fun q hq => ?_⟩
        · have hcl : (PCs ps).length = n * 2 := by rw [PCs_length, h1l]
          rw [PCs_snoc] at hu
          by_cases hlt : j < n * 2
          · rw [List.getElem?_append_left (by omega)] at hu
            obtain ⟨ad', e, _, hcc⟩ := Reads.at_two h1 (by omega)
            cases e
            exact hcc j u hu
          · rw [List.getElem?_append_right (by omega), hcl] at hu
            have hj := (List.getElem?_eq_some_iff.1 hu).1
            simp at hj
            rcases (by omega : j = n * 2 ∨ j = n * 2 + 1) with rfl | rfl
            · simp at hu
              rw [← hu]
              exact c0
            · rw [show n * 2 + 1 - n * 2 = 1 by omega] at hu
              simp at hu
              rw [← hu]
              exact c1
        · rcases List.mem_append.1 hq with hq | hq
          · exact h2 q hq
          · rw [List.mem_singleton.1 hq]
            exact hp
    exact this len (Nat.le_refl _)

end Go.Proofs.Ythmkmojlnfkfjaa
