/- Package chain: contracts of Put, Get and Many, for parts and pages of any bytes. -/
import Derived.Test.YthnehmfpadahiaaOctR
namespace Go.Proofs.Ythnehmfpadahiaa
open Go.RowKit
set_option linter.unusedVariables false
set_option linter.unusedSimpArgs false

theorem equal_any (w : World) (B D : Nat) (A : Option Addr) (n c : Nat) (l : List UInt8) (A' : Option Addr) (n' c' : Nat) (l' : List UInt8) (h : Sl w B A n c l) (h' : Sl w D A' n' c' l') :
    Calls Try.prog 42 #[.slice A n c, .slice A' n' c'] w fun e w' => e = .returned (.bool (decide (l = l'))) ∧ w = w' := by
  have q1 := string_of_sl (P := Try.prog) Try.underlying22 Try.underlying5 Try.underlying9 h
  have q2 := string_of_sl (P := Try.prog) Try.underlying22 Try.underlying5 Try.underlying9 h'
  go_enter Try.func42, Try.ntmps42
  go_wp2
  go_ret
  refine ⟨?_, rfl⟩
  simp
  by_cases e : l = l' <;> simp [e]

theorem cmay_yes (s : Int) (h : 512 ≤ s) (h' : s ≤ 4096) (w : World) : Calls Try.prog 41 #[.int .i64 s] w fun e w' => e = .returned (.bool true) ∧ w = w' := by
  go_enter Try.func41, Try.ntmps41
  go_wp2
  go_ret
  exact ⟨by simp, rfl⟩
theorem cmay_no (s : Int) (h : ¬ (512 ≤ s ∧ s ≤ 4096)) (w : World) : Calls Try.prog 41 #[.int .i64 s] w fun e w' => e = .returned (.bool false) ∧ w = w' := by
  by_cases h1 : 512 ≤ s
  all_goals
    have h2 : ¬ s ≤ 4096 ∨ ¬ 512 ≤ s := by omega
    go_enter Try.func41, Try.ntmps41
    go_wp2
    go_ret
    exact ⟨by first | (simp; omega) | (simp; done), rfl⟩

/-- A part's page. -/
def chPut (l : List UInt8) (next size : Nat) : List UInt8 := [3, 0] ++ numB l.length 2 ++ numB next 4 ++ l ++ List.replicate (size - 8 - l.length) 0
theorem chPut_length (l : List UInt8) (next size : Nat) (h : l.length + 8 ≤ size) : (chPut l next size).length = size := by
  simp [chPut, numB_length]; omega
theorem numB3 : numB 3 1 = [3] := by decide
theorem numB0 : numB 0 1 = [0] := by decide
theorem chPut_splice (l : List UInt8) (next size : Nat) (h : l.length + 8 ≤ size) :
    splice (List.replicate size (0 : UInt8)) 0 (([] ++ numB 3 1 ++ numB 0 1 ++ numB l.length 2 ++ numB next 4 ++ l).take (min ([] ++ numB 3 1 ++ numB 0 1 ++ numB l.length 2 ++ numB next 4 ++ l).length size)) = chPut l next size := by
  rw [List.take_of_length_le (by simp [numB_length]; omega)]
  simp [splice, chPut, numB3, numB0, numB_length]
  omega

theorem cput_ok (w : World) (B : Nat) (A : Option Addr) (n c : Nat) (l : List UInt8) (h : Sl w B A n c l) (next size : Nat) (hx : next < 4294967296) (h1 : 512 ≤ size) (h2 : size ≤ 4096) (h3 : 1 ≤ n) (h4 : n + 8 ≤ size) :
    Calls Try.prog 15 #[.slice A n c, .int .u32 (next : Int), .int .i64 (size : Int)] w fun e w' => ∃ g, e = .returned (.tuple #[.slice (some ⟨g, 0, none⟩) size size, .int .i64 0]) ∧ w.heap.size ≤ g ∧ RowB w' g (chPut l next size) ∧ Below w.heap.size w w' := by
  obtain ⟨i0, hi0, hz0, hz1, hz2⟩ := info_parts info_u8
  have hinfo : (Try.prog.info? 5).map (·.size) = some 1 := by rw [hi0]; simp [hz1]
  have hlen := h.len
  subst hlen
  have hl : l.length ≤ 4088 := by omega
  go_enter Try.func15, Try.ntmps15
  go_wp2_with (first
    | (go_at_call 41; refine (cmay_yes _ (by omega) (by omega) _).mono ?_; rintro e w' ⟨rfl, rfl⟩)
    | (go_at_call 24; refine (new_w _).mono ?_; rintro e w1 ⟨rfl, hW1, hb1⟩))
  refine (num_i _ _ _ _ _ _ hW1 (by omega) (by omega) (by omega) (by omega) (by simp) hb1.size).mono ?_
  rintro e w2 ⟨rfl, hW2, hb2'⟩
  have hb2 := hb1.trans hb2'
  clear hb2' hW1
  go_wp2_with fail
  refine (num_i _ _ _ _ _ _ hW2 (by omega) (by omega) (by omega) (by omega) (by simp [numB_length]) hb2.size).mono ?_
  rintro e w3 ⟨rfl, hW3, hb3'⟩
  have hb3 := hb2.trans hb3'
  clear hb3' hW2
  go_wp2_with fail
  refine (num_i _ _ _ _ _ _ hW3 (by omega) (by omega) (by omega) (by omega) (by simp [numB_length]) hb3.size).mono ?_
  rintro e w4 ⟨rfl, hW4, hb4'⟩
  have hb4 := hb3.trans hb4'
  clear hb4' hW3
  go_wp2_with fail
  refine (num_i _ _ _ _ _ _ hW4 (by omega) (by omega) (by omega) (by omega) (by simp [numB_length]) hb4.size).mono ?_
  rintro e w5 ⟨rfl, hW5, hb5'⟩
  have hb5 := hb4.trans hb5'
  clear hb5' hW4
  go_wp2_with fail
  refine (raw_any _ _ _ _ hW5 hb5.size _ _ _ _ _ (h.belowX hb5) (by simp [numB_length]; omega)).mono ?_
  rintro e w6 ⟨rfl, hW6, hb6'⟩
  have hb6 := hb5.trans hb6'
  clear hb6' hW5
  have hs0 : (0 : Int) ≤ (size : Int) := by omega
  go_wp2_with (first
    | (at_make; refine wpList_make_bytes _ rfl _ _ _ rfl Try.underlying22 info_u8 _ _ _ rfl rfl (by omega) (by omega) ?_; intro w7 hr7 hb7')
    | (go_at_call 32; refine (out_any _ _ _ _ (hW6.below hb7') (by simp [numB_length]; omega)).mono ?_; rintro e w8 ⟨A8, n8, c8, rfl, hown8, hb8'⟩; have hr8 := hr7.below hb8' hr7.lt)
    | (refine wpList_copy_bytes rfl (.tmp 44) (.tmp 46) 22 22 rfl Try.underlying22 hinfo _ _ _ _ _ _ rfl rfl w6.heap.size 0 _ hr8 _ _ (Sl.of_own hown8) (fun _ => rfl) (by simp; omega) ?_; intro w9 hr9 ha9))
  go_ret2
  have hn8 := (Sl.of_own hown8).len
  subst hn8
  have hz7 : w.heap.size ≤ w6.heap.size := hb6.size
  have hz8 := hb7'.size
  have hz9 := hb8'.size
  refine ⟨_, rfl, hz7, ?_, ((hb6.trans (hb7'.mono hz7)).trans (hb8'.mono (by omega))).trans (ha9.below hz7 (by omega))⟩
  have hsp := chPut_splice l next size h4
  simp only [Int.toNat_natCast] at hr9
  rw [← hsp]
  exact hr9

theorem cput_no (w : World) (B : Nat) (A : Option Addr) (n c : Nat) (l : List UInt8) (h : Sl w B A n c l) (hn : n ≤ 140737488355328) (next : Nat) (size : Int) (hs : ¬ (512 ≤ size ∧ size ≤ 4096 ∧ 1 ≤ n ∧ (n : Int) + 8 ≤ size)) :
    Calls Try.prog 15 #[.slice A n c, .int .u32 (next : Int), .int .i64 size] w fun e w' => e = .returned (.tuple #[.slice none 0 0, .int .i64 1]) ∧ w = w' := by
  by_cases hm : 512 ≤ size ∧ size ≤ 4096
  · obtain ⟨h1, h2⟩ := hm
    have h3 : (n : Int) < 1 ∨ size - 8 < (n : Int) := by omega
    by_cases h4 : (n : Int) < 1
    · have h4b : decide ((n : Int) < 1) = true := decide_eq_true h4
      clear hs h3
      go_enter Try.func15, Try.ntmps15
      go_wp2_with (first | (go_at_call 41; refine (cmay_yes _ (by omega) (by omega) _).mono ?_; rintro e w' ⟨rfl, rfl⟩))
      all_goals (go_ret2; exact ⟨rfl, rfl⟩)
    · have h5 : size - 8 < (n : Int) := by omega
      have h4b : decide ((n : Int) < 1) = false := decide_eq_false h4
      have h5b : decide (size - 8 < (n : Int)) = true := decide_eq_true h5
      clear hs h3
      go_enter Try.func15, Try.ntmps15
      go_wp2_with (first | (go_at_call 41; refine (cmay_yes _ (by omega) (by omega) _).mono ?_; rintro e w' ⟨rfl, rfl⟩))
      all_goals (go_ret2; exact ⟨rfl, rfl⟩)
  · clear hs
    go_enter Try.func15, Try.ntmps15
    go_wp2_with (first | (go_at_call 41; refine (cmay_no _ hm _).mono ?_; rintro e w' ⟨rfl, rfl⟩))
    go_ret2
    exact ⟨rfl, rfl⟩

theorem conv_i64 (x : Nat) (h : x < 65536) : IntKind.i64.wrap (x : Int) = (x : Int) := IntWalk.i64_in _ (by omega)
theorem conv_u32 (x : Nat) (h : x < 4294967296) : IntKind.u32.wrap (x : Int) = (x : Int) := IntWalk.u32_in _ (by omega)

/-- What is read of a page's head and part, whatever the bytes. -/
def rest2 (l : List UInt8) : List UInt8 × Int := (takeR l 0 2, takeE l 0 2)
def chN (l : List UInt8) : Nat := be (takeL (takeR l 0 2) (takeE l 0 2) 2)
def chR2 (l : List UInt8) : List UInt8 := takeR (takeR l 0 2) (takeE l 0 2) 2
def chE2 (l : List UInt8) : Int := takeE (takeR l 0 2) (takeE l 0 2) 2
def chX (l : List UInt8) : Nat := be (takeL (chR2 l) (chE2 l) 4)
def chPart (l : List UInt8) : List UInt8 := takeL (takeR (chR2 l) (chE2 l) 4) (takeE (chR2 l) (chE2 l) 4) (chN l)

/-- What a page tells: its part, and the next page. -/
def chGet (l : List UInt8) : Option (List UInt8 × Nat) :=
  if 512 ≤ l.length ∧ l.length ≤ 4096 ∧ 1 ≤ (chPart l).length ∧ (chPart l).length + 8 ≤ l.length ∧ chPut (chPart l) (chX l) l.length = l then some (chPart l, chX l) else none

def GetPost (w : World) (l : List UInt8) (e : Ending) (w' : World) : Prop :=
  Below w.heap.size w w' ∧ match chGet l with
    | some (p, x) => x < 4294967296 ∧ ∃ A n c, e = .returned (.tuple #[.slice A n c, .int .u32 (x : Int), .int .i64 0]) ∧ w'.ownsRow w.heap.size 5 1 (.slice A n c) n (bv p)
    | none => e = .returned (.tuple #[.slice none 0 0, .int .u32 0, .int .i64 11])

theorem cget_any (w : World) (B : Nat) (A : Option Addr) (n c : Nat) (l : List UInt8) (h : Sl w B A n c l) (hn : n ≤ 140737488355328) :
    Calls Try.prog 17 #[.slice A n c] w (GetPost w l) := by
  have hlen := Lib.hid h.len
  go_enter Try.func17, Try.ntmps17
  go_wp2_with (first | (go_at_call 33; refine (new_r _ _ _ _ _ _ h hn).mono ?_; rintro e w1 ⟨g, rfl, hR1, hg1, hb1⟩))
  refine (rnum_i _ _ _ _ _ hR1 (by omega) (by omega)).mono ?_
  rintro e w2 ⟨x2, rfl, hx2, hx2b, hR2, hA2⟩
  have hb2 := hb1.trans (hA2.below hg1 hb1.size)
  go_wp2_with fail
  refine (rnum_i _ _ _ _ _ hR2 (by omega) (by omega)).mono ?_
  rintro e w3 ⟨x3, rfl, hx3, hx3b, hR3, hA3⟩
  have hb3 := hb2.trans (hA3.below hg1 hb2.size)
  have hx3c : x3 < 65536 := hx3b
  have hx3i := conv_i64 x3 hx3c
  go_wp2_with fail
  refine (rnum_i _ _ _ _ _ hR3 (by omega) (by omega)).mono ?_
  rintro e w4 ⟨x4, rfl, hx4, hx4b, hR4, hA4⟩
  have hb4 := hb3.trans (hA4.below hg1 hb3.size)
  have hx4c : x4 < 4294967296 := hx4b
  have hx4i := conv_u32 x4 hx4c
  go_wp2_with fail
  have hl4 := Lib.hid (show (takeR (chR2 l) (chE2 l) 4).length ≤ 140737488355328 from by
    have a1 := takeR_le (chR2 l) (chE2 l) 4
    have a2 := takeR_le (takeR l 0 2) (takeE l 0 2) 2
    have a3 := takeR_le l 0 2
    have a4 := hlen.out
    have a5 : (chR2 l).length ≤ (takeR l 0 2).length := a2
    omega)
  refine (rraw_any _ _ _ _ _ hR4 hl4.out).mono ?_
  rintro e w5 ⟨A5, n5, c5, rfl, hown5, hR5, hA5⟩
  have hb5 := hb4.trans (hA5.below hg1 hb4.size)
  go_wp2_with fail
  have e3 : x3 = chN l := hx3.out
  have e4 : x4 = chX l := hx4.out
  have hown : w5.ownsRow w4.heap.size 5 1 (.slice A5 n5 c5) n5 (bv (chPart l)) := by rw [e3] at hown5; exact hown5
  have E3 := Lib.hid e3
  have E4 := Lib.hid e4
  clear e3 e4 hown5 hx2 hx2b hx3 hx3b hx4 hx4b hR1 hR2 hR3 hR4 hR5 hA2 hA3 hA4
  have hs5 := Sl.of_own hown
  have hn5 := hs5.len
  have hsb := h.belowX hb5
  by_cases hok : 512 ≤ n ∧ n ≤ 4096 ∧ 1 ≤ n5 ∧ n5 + 8 ≤ n
  · obtain ⟨o1, o2, o3, o4⟩ := hok
    have HN5 := Lib.hid hn5
    clear hn5
    refine (cput_ok _ _ _ _ _ _ hs5 x4 n hx4c o1 o2 o3 o4).mono ?_
    rintro e w6 ⟨g6, rfl, hg6, hr6, hb6'⟩
    have hb6 := hb5.trans (hb6'.mono hb5.size)
    have hs6 := hr6.sl (by rw [chPut_length _ _ _ (by rw [HN5.out]; exact o4)]; omega)
    rw [chPut_length _ _ _ (by rw [HN5.out]; exact o4)] at hs6
    have hs7 := h.belowX hb6
    have hown6 := own_below hown hb6' (Nat.le_refl _)
    by_cases heq : chPut (chPart l) x4 n = l
    · have HQ := Lib.hid heq
      have heqb := equal_any w6 _ _ _ _ _ _ _ _ _ _ hs6 hs7
      rw [decide_eq_true heq] at heqb
      have HEQB := Lib.hid heqb
      clear heq heqb
      go_wp2_with (first | (go_at_call 42; refine HEQB.out.mono ?_; rintro e w7 ⟨rfl, rfl⟩))
      go_ret3
      have hg : chGet l = some (chPart l, x4) := by
        unfold chGet
        have := hlen.out
        have := HN5.out
        rw [if_pos ⟨by omega, by omega, by omega, by omega, by rw [← E4.out, hlen.out]; exact HQ.out⟩, ← E4.out]
      refine ⟨hb6, ?_⟩
      rw [hg]
      exact ⟨hx4c, A5, n5, c5, rfl, own_weaken hown6 hb4.size⟩
    · have HQ := Lib.hid heq
      have heqb := equal_any w6 _ _ _ _ _ _ _ _ _ _ hs6 hs7
      rw [decide_eq_false heq] at heqb
      have HEQB := Lib.hid heqb
      clear heq heqb
      go_wp2_with (first | (go_at_call 42; refine HEQB.out.mono ?_; rintro e w7 ⟨rfl, rfl⟩))
      go_ret3
      have hg : chGet l = none := by
        unfold chGet
        rw [if_neg]
        rintro ⟨_, _, _, _, hh⟩
        rw [← E4.out, hlen.out] at hh
        exact HQ.out hh
      refine ⟨hb6, ?_⟩
      rw [hg]
      rfl
  · have hg : chGet l = none := by
      unfold chGet
      have := hlen.out
      rw [if_neg]
      rintro ⟨h1, h2, h3, h4, _⟩
      exact hok ⟨by omega, by omega, by omega, by omega⟩
    have HG := Lib.hid hg
    have hn5b : n5 ≤ 140737488355328 := by
      have a := takeL_le (takeR (chR2 l) (chE2 l) 4) (takeE (chR2 l) (chE2 l) 4) (chN l)
      have b := hl4.out
      have c : (chPart l).length ≤ (takeR (chR2 l) (chE2 l) 4).length := a
      omega
    clear hg hn5
    refine (cput_no _ _ _ _ _ _ hs5 hn5b x4 n (by omega)).mono ?_
    rintro e w6 ⟨rfl, rfl⟩
    clear hok
    go_wp2_with fail
    go_ret3
    refine ⟨hb5, ?_⟩
    rw [HG.out]
    rfl

end Go.Proofs.Ythnehmfpadahiaa
