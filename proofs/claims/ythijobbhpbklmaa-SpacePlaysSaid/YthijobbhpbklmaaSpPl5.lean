/- SSort0 -/
import Derived.Test.YthijobbhpbklmaaSpPl3
import Derived.Sort.AssemblyPlain
import Derived.Sort.WalkA14
import Derived.Test.YthijobbhpbklmaaSpPl4
import Derived.Sort.Walk13a
/- slices.Sort at pages: what it answers if pdqsortOrdered does up to so many pages; few pages; none. (bits.Len, Sort, the arms of no page: turned from the kit's worked walks.) -/
namespace Go.Proofs.Ythijobbhpbklmaa
open Go.RowKit Go.Sort
set_option linter.unusedVariables false
set_option linter.unusedSimpArgs false

/-- pdqsortOrdered does ranges of up to m pages. -/
def PdqAt (m : Nat) : Prop := ∀ (blk off cap a b limit : Nat) (d : Array Nat) (w : World), Holds encQ w blk off d → blk < w.heap.size → a ≤ b → b ≤ d.size → b - a ≤ m → d.size < 4611686018427387904 → limit < 4611686018427387904 → Go.Sort.Below ltP a b d →
  Calls Try.prog 91 #[.slice (some ⟨blk, off, none⟩) d.size cap, .int .i64 a, .int .i64 b, .int .i64 limit] w fun e w' =>
    e = .returned (.tuple #[]) ∧ ∃ n os, w' = grow (putRow encQ (Sort.ahead w n) blk off (Sort.pdq ltP d a b limit true true)) os
/-- Some pages, rising. -/
def srt (l : List Nat) : List Nat := l.mergeSort fun x y => decide (x ≤ y)
theorem swo_ltP : SWO ltP where
  irrefl x := by simp [ltP]
  trans x y z h1 h2 := by simp only [ltP, decide_eq_true_eq] at *; omega
  ntrans x y z h1 h2 := by simp only [ltP, decide_eq_false_iff_not] at *; omega
theorem sort_page_eq (l : List Nat) : Sort.sort ltP l.toArray = (srt l).toArray := by
  obtain ⟨hP, hSo⟩ := sort_sorts ltP swo_ltP l.toArray
  have h := sorted_unique_holds swo_ltP (fun x y h1 h2 => by simp only [ltP, decide_eq_false_iff_not] at h1 h2; omega) l.toArray _ hP hSo
  have h2 : (Sort.sort ltP l.toArray).toList = srt l := by
    rw [h]
    unfold srt
    congr 1
    funext x y
    show (!decide (y < x)) = decide (x ≤ y)
    by_cases h : x ≤ y
    · have h' : ¬ y < x := by omega
      simp [h, h']
    · have h' : y < x := by omega
      simp [h, h']
  rw [← h2]
/-- slices.Sort does up to m pages. -/
def SortsAt (m : Nat) : Prop := ∀ (blk off cap : Nat) (ss : List Nat) (w : World), Holds encQ w blk off ss.toArray → blk < w.heap.size → ss.length ≤ m → ss.length < 4611686018427387904 →
  Calls Try.prog 86 #[.slice (some ⟨blk, off, none⟩) ss.length cap] w fun e w' =>
    e = .returned (.tuple #[]) ∧ ∃ n os, w' = grow (putRow encQ (Sort.ahead w n) blk off (srt ss).toArray) os
set_option maxRecDepth 100000 in
theorem sort_page {m : Nat} (hpdq : PdqAt m) (blk off cap : Nat) (d : Array Nat) (w : World) (hH : Holds encQ w blk off d) (hblk : blk < w.heap.size) (hm : d.size ≤ m) (hsz : d.size < 4611686018427387904) :
    Calls Try.prog 86 #[.slice (some ⟨blk, off, none⟩) d.size cap] w fun e w' => e = .returned (.tuple #[]) ∧ ∃ n os, w' = grow (putRow encQ (Sort.ahead w n) blk off (Sort.sort ltP d)) os := by
  have HH : Hid (Holds encQ w blk off d) := hH
  clear hH
  have hLen : ∀ w, Calls Try.prog 92 #[.int .u64 (d.size : Int)] w fun e w' => e = .returned (.int .i64 (bitsLen d.size : Nat)) ∧ w' = w := fun w => by
    have h := bits_len (d.size : Int) w (by omega) (by omega)
    rwa [Int.toNat_natCast, bitLen_eq _ (by omega)] at h
  have hk : bitsLen d.size ≤ 62 := (bitsLen_le_iff d.size 62).2 (by omega)
  go_enter Try.func86, Try.ntmps86
  go_wp2_with (first
    | (go_at_call 92; refine (hLen _).mono ?_; rintro e w' ⟨rfl, rfl⟩)
    | (go_at_call 91; refine (hpdq blk off cap 0 d.size (bitsLen d.size) d _ (by exact HH.out) (by exact hblk) (Nat.zero_le _) (Nat.le_refl _) (by omega) hsz (by omega) (Or.inl rfl)).mono ?_; rintro e w' ⟨rfl, n, os, rfl⟩))
  go_end0
  exact ⟨rfl, n, os, rfl⟩
theorem sorts_at {m : Nat} (hpdq : PdqAt m) : SortsAt m := by
  intro blk off cap ss w hH hblk hm hsz
  have h := sort_page hpdq blk off cap ss.toArray w hH hblk (by simpa using hm) (by simpa using hsz)
  rw [sort_page_eq] at h
  simpa using h
end Go.Proofs.Ythijobbhpbklmaa
