/- The writer of package octet: contracts of NewWriter, Num, Raw, Out and slices.Clone, for writers that own their bytes. -/
import Derived.Test.YthmkmojlnfkfjaaLib
import Derived.Deep.RegionLaw
import Derived.Deep.RegionHeld3
import Derived.BigQuiet
import Derived.WalkSpells
import Derived.Deep.DrawnRows
namespace Go.Proofs.Ythmkmojlnfkfjaa
open Go.RowKit
set_option linter.unusedVariables false
set_option linter.unusedSimpArgs false

theorem info_u8 : (Try.prog.info? 5).map (fun i => (i.zero, i.size, i.bytes)) = some (some (.int .u8 0), 1, 1) := by kernel_rfl

/-- A writer at block g that has put l; its blocks are B and above. -/
def IsW (B : Nat) (w : World) (g : Nat) (l : List UInt8) : Prop :=
  B ≤ g ∧ ∃ v, w.heap[g]? = some (.cells #[v] 99 (0, 0)) ∧ w.ownsRow B 5 1 v l.length (bv l)

theorem IsW.below {B D : Nat} {w w' : World} {g : Nat} {l : List UInt8} (h : IsW B w g l) (hb : Below D w w') (hD : w.heap.size ≤ D := by exact Nat.le_refl _) : IsW B w' g l := by
  obtain ⟨h1, v, h2, h3⟩ := h
  exact ⟨h1, v, blk_below h2 hb (Nat.lt_of_lt_of_le (blk_lt h2) hD), own_below h3 hb hD⟩

theorem new_w (w : World) : Calls Try.prog 32 #[] w fun e w' =>
    e = .returned (.pointer (some ⟨w.heap.size, 0, none⟩)) ∧ IsW w.heap.size w' w.heap.size [] ∧ Below w.heap.size w w' := by
  go_enter Try.func32, Try.ntmps32
  go_wp2
  go_ret
  exact ⟨rfl, ⟨Nat.le_refl _, _, heap_alloc_new w _, World.ownsRow_nil _ _ _ _⟩, (Below.refl _ _).alloc (Nat.le_refl _) _⟩

theorem may_any (s : Int) (w : World) : Calls Try.prog 44 #[.int .i64 s] w fun e w' =>
    e = .returned (.bool (decide (1 ≤ s ∧ s ≤ 8))) ∧ w = w' := by
  by_cases h : 1 ≤ s <;> by_cases h' : s ≤ 8
  all_goals
    go_enter Try.func44, Try.ntmps44
    go_wp2
    go_ret
    exact ⟨by simp [h, h'], rfl⟩

theorem clone_any (w : World) (B : Nat) (A : Option Addr) (n c : Nat) (l : List UInt8) (h : Sl w B A n c l) (hn : n ≤ 140737488355328) :
    Calls Try.prog 48 #[.slice A n c] w fun e w' => ∃ v, e = .returned v ∧ w'.ownsRow w.heap.size 5 1 v n (bv l) ∧ Below w.heap.size w w' := by
  obtain ⟨i0, hi0, hz0, hz1, hz2⟩ := info_parts info_u8
  have q := fun (w : World) (a : Option Addr) (n c n' c' : Nat) => Lib.run_eql_slice_nil (P := Try.prog) w _ _ a n c n' c' Try.underlying35
  rcases A with _ | ad
  · have hc := h.nil rfl
    have hn0 : n = 0 := by have := h.cap; omega
    subst hc hn0
    have hl : l = [] := List.eq_nil_of_length_eq_zero h.len
    subst hl
    clear h hn
    go_enter Try.func48, Try.ntmps48
    go_wp2
    go_ret
    exact ⟨_, rfl, World.ownsRow_nil _ _ _ _, Below.refl _ _⟩
  · have hr := h.reads
    clear h
    go_enter Try.func48, Try.ntmps48
    go_wp2_with (first | (at_builtin; refine wpList_append_any _ rfl (.tmp 5) (.tmp 6) _ rfl w.heap.size 5 i0 _ 1 1 Try.underlying35 hi0 hz0 hz1 hz2 rfl (by omega) _ 0 [] rfl (World.ownsRow_made w #[] 0 (Nat.le_refl _) (by simp [maxLen]) rfl) B (some ad) n c _ rfl (hr.alloc' _) (bv_one l) (by simp only [maxLen]; omega) (by omega) (by simp) ?_))
    intro v w1 hown hg hat
    go_wp2
    go_ret
    exact ⟨v, rfl, by simpa using hown, ((Below.refl _ _).alloc (Nat.le_refl _) _).grown hg (by simp) (fun k hk => by simp [Value.ownBlock] at hk; omega)⟩

theorem may_yes (s : Int) (h : 1 ≤ s) (h' : s ≤ 8) (w : World) : Calls Try.prog 44 #[.int .i64 s] w fun e w' => e = .returned (.bool true) ∧ w = w' := by
  go_enter Try.func44, Try.ntmps44
  go_wp2
  go_ret
  exact ⟨by simp, rfl⟩
theorem may_no (s : Int) (h : ¬ (1 ≤ s ∧ s ≤ 8)) (w : World) : Calls Try.prog 44 #[.int .i64 s] w fun e w' => e = .returned (.bool false) ∧ w = w' :=
  (may_any s w).mono fun e w' ⟨he, hw⟩ => ⟨by rw [he]; simp [h], hw⟩

/-- A number in so many bytes, the highest first. -/
def numB (x sz : Nat) : List UInt8 := (List.range sz).map fun i => UInt8.ofNat (x / 2 ^ (8 * (sz - 1 - i)))
theorem numB_length (x sz : Nat) : (numB x sz).length = sz := by simp [numB]
theorem numB_take (x sz k : Nat) (h : k < sz) : (numB x sz).take (k + 1) = (numB x sz).take k ++ [UInt8.ofNat (x / 2 ^ (8 * (sz - 1 - k)))] := by
  rw [List.take_succ_eq_append_getElem (by rw [numB_length]; exact h)]
  simp [numB]

theorem byte_of_shr (x e : Nat) (he : 8 * e ≤ 64) : IntKind.u8.wrap ((x : Int) / 2 ^ min ((8 * (e : Int)).toNat) 64) = ((UInt8.ofNat (x / 2 ^ (8 * e))).toNat : Int) := by
  have h1 : min ((8 * (e : Int)).toNat) 64 = 8 * e := by omega
  rw [h1, IntKind.wrap_u8]
  have h2 : ((x : Int) / 2 ^ (8 * e)) = ((x / 2 ^ (8 * e) : Nat) : Int) := by simp
  rw [h2]
  simp [UInt8.toNat_ofNat']
theorem IsW.put {B : Nat} {w1 : World} {g : Nat} {u : Value} {A : Option Addr} {n m c : Nat} {xs : List Value} {l : List UInt8} (hBg : B ≤ g) (hone : One w1 g 99 u) (hown : w1.ownsRow B 5 1 (.slice A n c) n xs)
    (hn : n = l.length) (hm : m = n) (hx : xs = bv l) : IsW B (w1.setCell ⟨g, 0, none⟩ (.slice A m c)) g l := by
  subst hm hn hx
  have h : w1.heap[g]? = some (.cells #[u] 99 (0, 0)) := hone
  exact ⟨hBg, _, by simpa using blk_set h 0 _, own_setCell hown (own_ne hown h (by decide)) _⟩

theorem num_any (B g : Nat) (l : List UInt8) (x : Nat) (hx : x < 18446744073709551616) (sz : Nat) (h1 : 1 ≤ sz) (h8 : sz ≤ 8) (w : World) (h : IsW B w g l) (hl : l.length ≤ 1099511627776) (hB : B ≤ w.heap.size) :
    Calls Try.prog 33 #[.pointer (some ⟨g, 0, none⟩), .int .u64 (x : Int), .int .i64 (sz : Int)] w fun e w' => e = .returned (.tuple #[]) ∧ IsW B w' g (l ++ numB x sz) ∧ Below B w w' := by
  obtain ⟨i0, hi0, hz0, hz1, hz2⟩ := info_parts info_u8
  go_enter Try.func33, Try.ntmps33
  go_wp2_with (first | (go_at_call 44; refine (may_yes _ (by omega) (by omega) _).mono ?_; rintro e w' ⟨rfl, rfl⟩))
  go_loopw [15] (fun i wr => ∃ k : Nat, k ≤ sz ∧ i = .int .i64 k ∧ IsW B wr g (l ++ (numB x sz).take k) ∧ Below B w wr) (fun i _ => sz - (intOf i).toNat)
  case atStart => exact ⟨0, Nat.zero_le _, rfl, by simpa using h, Below.refl _ _⟩
  case round =>
    obtain ⟨k, hk, rfl, hW, hbw⟩ := hrel
    obtain ⟨hBg, v, hblk, hown⟩ := hW
    by_cases hlt : k < sz
    · have hone : One wr g 99 v := hblk
      obtain ⟨_, hcell, hfz⟩ := hone.all
      obtain ⟨e, he⟩ : ∃ e : Nat, e = sz - 1 - k := ⟨_, rfl⟩
      have hl' := hown.1
      have htk : ((numB x sz).take k).length = k := by simp [numB_length]; omega
      have hs1 : IntKind.i64.wrap ((sz : Int) - 1) = (sz : Int) - 1 := IntWalk.i64_in _ (by omega)
      have hs2 : IntKind.i64.wrap ((sz : Int) - 1 - (k : Int)) = (e : Int) := by rw [IntWalk.i64_in _ (by omega)]; omega
      have hs3 : IntKind.i64.wrap (8 * (e : Int)) = 8 * (e : Int) := IntWalk.i64_in _ (by omega)
      have hs4 : (0 : Int) ≤ 8 * (e : Int) := by omega
      have hlen : (l ++ (numB x sz).take k).length ≤ 1099511627786 := by simp [htk]; omega
      have HE := Lib.hid he
      have HTK := Lib.hid htk
      clear he htk hl'
      have hne := own_ne hown hblk (by decide)
      have hgs := blk_lt hblk
      have hbs := hbw.size
      have hBr : B ≤ wr.heap.size + 1 := by omega
      go_wp2
      go_region_law
        ((refine step_append_any _ (by rfl) _ _ _ (by rfl) B 5 i0 _ 1 1 Try.underlying35 hi0 hz0 hz1 hz2 rfl (by omega) v _ _ (by rfl) ((hown.alloc _).drew) _ _ 1 1 _ (by rfl) (Reads.one _ _ _) (by simp [Value.oneCell']) (by unfold maxLen; omega) (by omega) (by simpa using hBr) ?_; intro v' w1 hown1 hg1 hat1; obtain ⟨A', c', rfl⟩ := own_slice hown1; obtain ⟨hone1, hc1, hf1⟩ := (hone.grownA hg1 hne).all))
      all_goals
        go_wp2
        go_roundw
        case rel =>
          exact ⟨k + 1, by omega, by go_num, IsW.put hBg hone1 hown1 (by rw [numB_take _ _ _ hlt, ← HE.out, List.length_append, List.length_append, List.length_append, HTK.out]; simp; omega) (by simp) (by rw [numB_take _ _ _ hlt, ← HE.out, byte_of_shr _ _ (by have := HE.out; omega), ← List.append_assoc]; simp [bv]),
            ((hbw.alloc (by omega) _).drew.grown hg1 (by simpa using hBr) (fun k hk => own_base hown k hk)).setCell hBg _⟩
        case measure => simp [intOf]; omega
    · have hks : k = sz := by omega
      subst hks
      go_wp2
      go_end0
      exact ⟨rfl, ⟨hBg, v, hblk, by rwa [List.take_of_length_le (by simp [numB_length])] at hown⟩, hbw⟩

theorem num_i (B g : Nat) (l : List UInt8) (X S : Int) (w : World) (h : IsW B w g l) (hX : 0 ≤ X) (hX' : X ≤ 18446744073709551615) (h1 : 1 ≤ S) (h8 : S ≤ 8) (hl : l.length ≤ 1099511627776) (hB : B ≤ w.heap.size) :
    Calls Try.prog 33 #[.pointer (some ⟨g, 0, none⟩), .int .u64 X, .int .i64 S] w fun e w' => e = .returned (.tuple #[]) ∧ IsW B w' g (l ++ numB X.toNat S.toNat) ∧ Below B w w' := by
  obtain ⟨x, rfl⟩ := Int.eq_ofNat_of_zero_le hX
  obtain ⟨s, rfl⟩ := Int.eq_ofNat_of_zero_le (show 0 ≤ S by omega)
  exact num_any B g l x (by omega) s (by omega) (by omega) w h hl hB

theorem out_any (B g : Nat) (l : List UInt8) (w : World) (h : IsW B w g l) (hl : l.length ≤ 2199023255552) :
    Calls Try.prog 35 #[.pointer (some ⟨g, 0, none⟩)] w fun e w' => ∃ A n c, e = .returned (.slice A n c) ∧ w'.ownsRow w.heap.size 5 1 (.slice A n c) n (bv l) ∧ Below w.heap.size w w' := by
  obtain ⟨hBg, v, hblk, hown⟩ := h
  obtain ⟨A, c, rfl⟩ := own_slice hown
  obtain ⟨n, hn⟩ : ∃ n, l.length = n := ⟨_, rfl⟩
  have hnl : n ≤ 2199023255552 := by omega
  rw [hn] at hown hblk
  have hone : One w g 99 (.slice A n c) := hblk
  obtain ⟨_, hcell, hfz⟩ := hone.all
  have hsl := Sl.of_own hown
  clear hn hl
  go_enter Try.func35, Try.ntmps35
  go_wp2_with (first | (go_at_call 48; refine (clone_any _ _ _ _ _ _ hsl (by omega)).mono ?_; rintro e w' ⟨v', rfl, hown', hb'⟩; obtain ⟨A', c', rfl⟩ := own_slice hown'))
  go_ret
  exact ⟨A', n, c', rfl, hown', hb'⟩

end Go.Proofs.Ythmkmojlnfkfjaa
