/- The reference's Cut, both Many, chain.Cut of a size that is none. -/
import Derived.Test.YthnehmfpadahiaaCut
import Derived.Test.YthnehmfpadahiaaLawChain
namespace Go.Proofs.Ythnehmfpadahiaa
open Go.RowKit
set_option linter.unusedVariables false
set_option linter.unusedSimpArgs false

theorem info_str : (Try.prog.info? 9).map (fun i => (i.zero, i.size, i.bytes)) = some (some (.string ⟨#[]⟩), 1, 16) := by kernel_rfl

theorem cut_no (w : World) (A : Option Addr) (N c : Nat) (S : Int) (h : ¬ (512 ≤ S ∧ S ≤ 4096)) :
    Calls Try.prog 20 #[.slice A N c, .int .i64 S] w fun e w' => e = .returned (.slice none 0 0) ∧ Below w.heap.size w w' := by
  refine (callsIn_wide (n := 4)).1 ?_
  refine callsIn_of_wp_marks Try.func20 rfl trivial ?_ rfl
  simp only [Try.ntmps20, List.size_toArray, List.length_cons, List.length_nil, Nat.reduceAdd, Nat.reduceSub, Array.replicate_succ, Array.replicate_zero, List.push_toArray, List.append_toArray, List.nil_append, List.cons_append]
  gi_wp2_with (first | (refine ⟨trivial, ?_⟩; gi_at_call 41; refine (callsIn_wide.2 (cmay_no _ h _)).mono ?_; rintro e w' ⟨rfl, rfl⟩))
  exact ⟨_, results_tmp rfl _ _ _, rfl, Below.refl _ _⟩

def strC (l : List UInt8) (m k : Nat) : List Value := (List.range k).map (fun i => .string (st (chL l m i)))
def slLen : Value → Nat
  | .slice _ n _ => n
  | _ => 0

set_option maxRecDepth 100000 in
set_option maxHeartbeats 2000000 in
theorem refcut_ok (w : World) (l : List UInt8) (size : Nat) (h1 : 512 ≤ size) (h2 : size ≤ 4096) (hl : l.length ≤ 1099511627776) :
    Calls Try.prog 21 #[.string (st l), .int .i64 (size : Int)] w fun e w' => ∃ Av nv cv, e = .returned (.slice Av nv cv) ∧ Hid (nv = chK l.length (size - 8)) ∧ w'.ownsRow w.heap.size 9 1 (.slice Av nv cv) nv (strC l (size - 8) nv) ∧ Below w.heap.size w w' := by
  obtain ⟨is, si0, sz0, sz1, sz2⟩ := info_parts info_str
  obtain ⟨m, hm⟩ : ∃ m, size - 8 = m := ⟨_, rfl⟩
  rw [hm]
  have hmi : (size : Int) - 8 = (m : Int) := by omega
  have hm1 : 504 ≤ m := by omega
  have hm2 : m ≤ 4088 := by omega
  have hc1 : decide ((size : Int) < 512) = false := decide_eq_false (by omega)
  have hc2 : decide (4096 < (size : Int)) = false := decide_eq_false (by omega)
  obtain ⟨K, hK⟩ : ∃ K, chK l.length m = K := ⟨_, rfl⟩
  have HK := Lib.hid hK
  rw [hK]
  obtain ⟨s, hs⟩ : ∃ s, st l = s := ⟨_, rfl⟩
  rw [hs]
  go_enter Try.func21, Try.ntmps21
  go_wp2_with fail
  go_loopw [0, 5] (fun b o wr => ∃ (k co : Nat) (Ao : Option Addr), k ≤ K ∧ b = .string (st (l.drop (k * m))) ∧ o = .slice Ao k co ∧ wr.ownsRow w.heap.size 9 1 (.slice Ao k co) k (strC l m k) ∧ Below w.heap.size w wr) (fun _ o _ => K - slLen o)
  case atStart => exact ⟨0, 0, none, Nat.zero_le _, by simp [← hs], rfl, World.ownsRow_nil _ _ _ _, Below.refl _ _⟩
  case round =>
    obtain ⟨k, co, Ao, hk, rfl, rfl, hown, hbw⟩ := hrel
    have hbs := hbw.size
    obtain ⟨t, ht⟩ : ∃ t, l.drop (k * m) = t := ⟨_, rfl⟩
    have htl : t.length = l.length - k * m := by rw [← ht, List.length_drop]
    rw [ht]
    have Ht := Lib.hid ht
    by_cases hlt : k < K
    · have hkm : k * m < l.length := (chK_iff _ _ _ (by omega)).1 (by rw [HK.out]; exact hlt)
      obtain ⟨L, hL⟩ : ∃ L, t.length = L := ⟨_, rfl⟩
      obtain ⟨E, hE⟩ : ∃ E, min m L = E := ⟨_, rfl⟩
      have hE1 : 1 ≤ E := by omega
      have hE2 : E ≤ L := by omega
      have hE3 : E ≤ 4088 := by omega
      have hL2 : L ≤ 1099511627776 := by omega
      have hk9 : k ≤ 1099511627776 := Nat.le_trans (Nat.le_mul_of_pos_right k (show 0 < m by omega)) (by omega)
      have htE : t.take E = chL l m k := by
        rw [← ht, chL]
        rcases Nat.lt_or_ge L m with h9 | h9
        · rw [List.take_of_length_le (by rw [List.length_drop]; omega), List.take_of_length_le (by rw [List.length_drop]; omega)]
        · rw [show E = m by omega]
      have htE2 : t.drop E = l.drop ((k + 1) * m) := by
        rw [← ht, List.drop_drop, Nat.add_mul, Nat.one_mul]
        rcases Nat.lt_or_ge L m with h9 | h9
        · rw [List.drop_of_length_le (by omega), List.drop_of_length_le (by omega)]
        · rw [show E = m by omega]
      obtain ⟨ts, hts⟩ : ∃ ts, st t = ts := ⟨_, rfl⟩
      rw [hts]
      have hsz : ts.size = L := by rw [← hts, st_size, hL]
      have hem : ts.toList.isEmpty = false := by
        rw [← hts]
        cases t with
        | nil => simp at hL; omega
        | cons a t => simp
      have hmin : (if m < L then (m : Int) else (L : Int)) = (E : Int) := by split <;> omega
      have HSZ := Lib.hid hsz
      have HTS := Lib.hid hts
      have HE := Lib.hid htE
      have HE2 := Lib.hid htE2
      clear ht htl hE hL hts htE htE2 hkm hs hK
      go_wp2_with (first | (at_builtin; refine wpList_append_any _ rfl _ _ _ rfl w.heap.size 9 is _ 1 16 Try.underlying43 si0 sz0 sz1 sz2 rfl (by omega) (.slice Ao k co) k _ rfl (hown.alloc _) _ _ 1 1 _ rfl (Reads.one _ _ _) (by simp [Value.oneCell']) (by unfold maxLen; omega) (by omega) (by simp; omega) ?_; intro v' w5 hown5 hg5 hat5; obtain ⟨A5, c5, rfl⟩ := own_slice hown5))
      have htl2 : t.length = L := by rw [← HSZ.out, ← HTS.out, st_size]
      refine ⟨⟨k + 1, c5, A5, hlt, ?_, rfl, ?_, (hbw.alloc hbs _).grown hg5 (by simp; omega) (fun k hk => own_base hown k hk)⟩, by simp [slLen]; omega⟩
      · rw [← HTS.out, st_extract, List.take_of_length_le (by omega), HE2.out]
      · rw [← HTS.out, st_extract, List.drop_zero, HE.out] at hown5
        simp only [strC, List.range_succ, List.map_append, List.map_cons, List.map_nil] at hown5 ⊢
        exact hown5
    · have ht0 : t = [] := by
        refine List.eq_nil_of_length_eq_zero ?_
        have : ¬ k * m < l.length := fun h9 => hlt (by rw [← HK.out]; exact (chK_iff _ _ _ (by omega)).2 h9)
        omega
      subst ht0
      obtain rfl : k = K := by omega
      go_wp2_with fail
      go_ret
      exact ⟨Ao, k, co, rfl, Lib.hid rfl, hown, hbw⟩

theorem chK_many (n m : Nat) (hm : 0 < m) (hn : 1 ≤ n) : (n - 1) / m + 1 = chK n m := by
  unfold chK
  rw [show n + m - 1 = (n - 1) + m by omega, Nat.add_div_right _ hm]

/-- How many pieces n bytes need, at a page of S bytes. -/
def manyZ (N S : Int) : Int := if 1 ≤ N ∧ 512 ≤ S ∧ S ≤ 4096 then ((chK N.toNat (S.toNat - 8) : Nat) : Int) else 0

theorem cmany_any (w : World) (N S : Int) (hN : N ≤ 9223372036854775807) (hN' : -9223372036854775808 ≤ N) :
    Calls Try.prog 19 #[.int .i64 N, .int .i64 S] w fun e w' => e = .returned (.int .i64 (manyZ N S)) ∧ w' = w := by
  by_cases h1 : 1 ≤ N
  · obtain ⟨n, rfl⟩ := Int.eq_ofNat_of_zero_le (show 0 ≤ N by omega)
    have hd : decide ((n : Int) < 1) = false := decide_eq_false (by omega)
    by_cases h2 : 512 ≤ S ∧ S ≤ 4096
    · obtain ⟨size, rfl⟩ := Int.eq_ofNat_of_zero_le (show 0 ≤ S by omega)
      obtain ⟨m, hm⟩ : ∃ m, size - 8 = m := ⟨_, rfl⟩
      obtain ⟨n1, hn1⟩ : ∃ n1, n - 1 = n1 := ⟨_, rfl⟩
      obtain ⟨q, hq⟩ : ∃ q, n1 / m = q := ⟨_, rfl⟩
      have hv : manyZ (n : Int) (size : Int) = (q : Int) + 1 := by
        unfold manyZ
        rw [if_pos ⟨by omega, h2.1, h2.2⟩]
        simp only [Int.toNat_natCast]
        rw [← chK_many n _ (by omega) (by omega), hm, hn1, hq]
        simp
      rw [hv]
      have hmi : (size : Int) - 8 = (m : Int) := by omega
      have hni : (n : Int) - 1 = (n1 : Int) := by omega
      have hm1 : 504 ≤ m := by omega
      have hm2 : m ≤ 4088 := by omega
      have hqb : q ≤ n1 := by rw [← hq]; exact Nat.div_le_self _ _
      have hqn : q < 9223372036854775807 := by omega
      have hti : (n1 : Int).tdiv (m : Int) = (q : Int) := by rw [← hq]; rfl
      have hs1 : (512 : Int) ≤ (size : Int) := h2.1
      have hs2 : (size : Int) ≤ 4096 := h2.2
      clear hv hq hm hn1 h2
      go_enter Try.func19, Try.ntmps19
      go_wp2_with (first | (go_at_call 41; refine (cmay_yes _ hs1 hs2 _).mono ?_; rintro e w' ⟨rfl, rfl⟩))
      go_ret
      exact ⟨rfl, rfl⟩
    · have hv : manyZ (n : Int) S = 0 := by unfold manyZ; exact if_neg (fun hh => h2 hh.2)
      rw [hv]
      go_enter Try.func19, Try.ntmps19
      go_wp2_with (first | (go_at_call 41; refine (cmay_no _ h2 _).mono ?_; rintro e w' ⟨rfl, rfl⟩))
      go_ret
      exact ⟨rfl, rfl⟩
  · have hd : decide (N < 1) = true := decide_eq_true (by omega)
    have hv : manyZ N S = 0 := by unfold manyZ; exact if_neg (fun hh => h1 hh.1)
    rw [hv]
    go_enter Try.func19, Try.ntmps19
    go_wp2_with fail
    go_ret
    exact ⟨rfl, rfl⟩

theorem chK_round (n m : Nat) (hm : 0 < m) : chK n m = if n / m * m < n then n / m + 1 else n / m := by
  have e := Nat.div_add_mod n m
  have hr := Nat.mod_lt n hm
  rw [Nat.mul_comm] at e
  obtain ⟨q, hq⟩ : ∃ q, n / m = q := ⟨_, rfl⟩
  rw [hq] at e ⊢
  have a1 := chK_iff n m q (by omega)
  have a2 := chK_iff n m (q + 1) (by omega)
  have a3 : (q + 1) * m = q * m + m := by rw [Nat.add_mul, Nat.one_mul]
  split
  · rename_i h
    have := a1.2 h
    have : ¬ q + 1 < chK n m := fun hh => by have := a2.1 hh; omega
    omega
  · rename_i h
    have : ¬ q < chK n m := fun hh => h (a1.1 hh)
    rcases Nat.eq_zero_or_pos q with rfl | hp
    · omega
    · have a4 := chK_iff n m (q - 1) (by omega)
      have a5 : q * m = (q - 1) * m + m := by
        obtain ⟨q', rfl⟩ : ∃ q', q = q' + 1 := ⟨q - 1, by omega⟩
        rw [Nat.add_mul, Nat.one_mul]
        rfl
      have := a4.2 (by omega)
      omega

theorem rmany_any (w : World) (N S : Int) (hN : N ≤ 9223372036854775807) (hN' : -9223372036854775808 ≤ N) :
    Calls Try.prog 22 #[.int .i64 N, .int .i64 S] w fun e w' => e = .returned (.int .i64 (manyZ N S)) ∧ w' = w := by
  by_cases hok : 1 ≤ N ∧ 512 ≤ S ∧ S ≤ 4096
  · obtain ⟨n, rfl⟩ := Int.eq_ofNat_of_zero_le (show 0 ≤ N by omega)
    obtain ⟨size, rfl⟩ := Int.eq_ofNat_of_zero_le (show 0 ≤ S by omega)
    obtain ⟨h1, h2, h3⟩ := hok
    obtain ⟨m, hm⟩ : ∃ m, size - 8 = m := ⟨_, rfl⟩
    have hd : decide ((n : Int) < 1) = false := decide_eq_false (by omega)
    have hc1 : decide ((size : Int) < 512) = false := decide_eq_false (by omega)
    have hc2 : decide (4096 < (size : Int)) = false := decide_eq_false (by omega)
    obtain ⟨q, hq⟩ : ∃ q, n / m = q := ⟨_, rfl⟩
    obtain ⟨pr, hp⟩ : ∃ pr, q * m = pr := ⟨_, rfl⟩
    have hmi : (size : Int) - 8 = (m : Int) := by omega
    have hm1 : 504 ≤ m := by omega
    have hm2 : m ≤ 4088 := by omega
    have hpn : pr ≤ n := by rw [← hp, ← hq]; exact Nat.div_mul_le_self _ _
    have hqp : q ≤ pr := by rw [← hp]; exact Nat.le_mul_of_pos_right _ (by omega)
    have hnb : n ≤ 9223372036854775807 := by omega
    have hpI : (q : Int) * (m : Int) = (pr : Int) := by rw [← hp]; simp
    have hti : (n : Int).tdiv (m : Int) = (q : Int) := by rw [← hq]; rfl
    have hv : manyZ (n : Int) (size : Int) = if pr < n then (q : Int) + 1 else (q : Int) := by
      unfold manyZ
      rw [if_pos ⟨by omega, h2, h3⟩]
      simp only [Int.toNat_natCast]
      rw [hm, chK_round n m (by omega), hq, hp]
      split <;> simp
    rw [hv]
    have hs1 : (512 : Int) ≤ (size : Int) := h2
    have hs2 : (size : Int) ≤ 4096 := h3
    clear hv hq hm h2 h3
    by_cases hl : pr < n
    · rw [if_pos hl]
      have hqn : q < 9223372036854775807 := by omega
      have hlI : decide ((pr : Int) < (n : Int)) = true := decide_eq_true (by omega)
      clear hp
      go_enter Try.func22, Try.ntmps22
      go_wp2_with fail
      go_ret
      exact ⟨rfl, rfl⟩
    · rw [if_neg hl]
      have hlI : decide ((pr : Int) < (n : Int)) = false := decide_eq_false (by omega)
      clear hp
      go_enter Try.func22, Try.ntmps22
      go_wp2_with fail
      go_ret
      exact ⟨rfl, rfl⟩
  · have hv : manyZ N S = 0 := by unfold manyZ; exact if_neg hok
    rw [hv]
    by_cases c1 : S < 512
    · go_enter Try.func22, Try.ntmps22
      go_wp2_with fail
      go_ret
      exact ⟨rfl, rfl⟩
    · by_cases c2 : 4096 < S
      · go_enter Try.func22, Try.ntmps22
        go_wp2_with fail
        go_ret
        exact ⟨rfl, rfl⟩
      · have c3 : N < 1 := by omega
        go_enter Try.func22, Try.ntmps22
        go_wp2_with fail
        go_ret
        exact ⟨rfl, rfl⟩

theorem refcut_no (w : World) (l : List UInt8) (S : Int) (h : ¬ (512 ≤ S ∧ S ≤ 4096)) :
    Calls Try.prog 21 #[.string (st l), .int .i64 S] w fun e w' => e = .returned (.slice none 0 0) ∧ w' = w := by
  by_cases c1 : S < 512
  · go_enter Try.func21, Try.ntmps21
    go_wp2_with fail
    go_ret
    exact ⟨rfl, rfl⟩
  · have c2 : 4096 < S := by omega
    go_enter Try.func21, Try.ntmps21
    go_wp2_with fail
    go_ret
    exact ⟨rfl, rfl⟩

end Go.Proofs.Ythnehmfpadahiaa
