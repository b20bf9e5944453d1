/- What a writer's Num spares. -/
import Derived.Test.YthmkmojlnfkfjaaOctWn
namespace Go.Proofs.Ythmkmojlnfkfjaa
open Go.RowKit
set_option linter.unusedVariables false
set_option linter.unusedSimpArgs false

/-- Block k is neither the writer's own nor its bytes'. -/
def Avoid (w : World) (g k : Nat) : Prop := k < w.heap.size ∧ k ≠ g ∧ ∀ v, w.heap[g]? = some (.cells #[v] 99 (0, 0)) → v.ownBlock ≠ some k
/-- What the writer doesn't own stays. -/
def Spares (g : Nat) (w w' : World) : Prop := ∀ k, Avoid w g k → Avoid w' g k ∧ w'.heap[k]? = w.heap[k]?
theorem Spares.trans {g : Nat} {w w1 w2 : World} (h : Spares g w w1) (h' : Spares g w1 w2) : Spares g w w2 := fun k hk => ⟨(h' k (h k hk).1).1, (h' k (h k hk).1).2.trans (h k hk).2⟩
theorem Spares.of_below {g : Nat} {w w' : World} (h : Below w.heap.size w w') (hg : g < w.heap.size) : Spares g w w' := by
  intro k ⟨h1, h2, h3⟩
  exact ⟨⟨Nat.lt_of_lt_of_le h1 h.size, h2, fun v hv => h3 v (by rw [← h.block g hg]; exact hv)⟩, h.block k h1⟩
theorem own_lt {w : World} {base : Nat} {e : TypeId} {size n k : Nat} {v : Value} {xs : List Value} (h : w.ownsRow base e size v n xs) (hk : v.ownBlock = some k) : k < w.heap.size := by
  rcases h.2 with ⟨rfl, _⟩ | ⟨g', cap, cur, rfl, _, hh, _⟩
  · simp [Value.ownBlock] at hk
  · have : g' = k := by simpa [Value.ownBlock] using hk
    subst this
    exact blk_lt hh
theorem IsW.avoid {B g : Nat} {w : World} {l : List UInt8} (h : IsW B w g l) (o : Obj) : Avoid (w.alloc o) g w.heap.size := by
  obtain ⟨h1, v, h2, h3⟩ := h
  have hg := blk_lt h2
  refine ⟨by simp, by omega, fun v' hv' he => ?_⟩
  rw [blk_alloc h2 o] at hv'
  injection hv' with hv'
  injection hv' with hv'
  have : v' = v := by simpa using hv'.symm
  subst this
  exact absurd (own_lt h3 he) (by omega)

theorem spares_put {w wA w1 : World} {g : Nat} {v v' : Value} (hblk : w.heap[g]? = some (.cells #[v] 99 (0, 0))) (hA : Below w.heap.size w wA) (hg1 : wA.grownBy w1 v.ownBlock) (hat : v'.ownBlock = v.ownBlock ∨ v'.ownBlock = some wA.heap.size) (hone : One w1 g 99 v) : Spares g w (w1.setCell ⟨g, 0, none⟩ v') := by
  intro k ⟨k1, k2, k3⟩
  have hsz := hA.size
  have hk1 : w1.heap[k]? = w.heap[k]? := (hg1.block k (by omega) (fun h => k3 v hblk h.symm)).trans (hA.block k k1)
  refine ⟨⟨by have := hg1.size; simp; omega, k2, fun v2 hv2 => ?_⟩, by rw [Below.heap_setCell _ _ _ _ k2, hk1]⟩
  have h1 : w1.heap[g]? = some (.cells #[v] 99 (0, 0)) := hone
  have h2 := blk_set h1 0 v'
  rw [h2] at hv2
  injection hv2 with hv2
  injection hv2 with hv2
  have : v2 = v' := by simpa using hv2.symm
  subst this
  rcases hat with h | h
  · rw [h]; exact k3 v hblk
  · rw [h]; intro e; injection e with e; omega

theorem num_keep (B g : Nat) (l : List UInt8) (x : Nat) (hx : x < 18446744073709551616) (sz : Nat) (h1 : 1 ≤ sz) (h8 : sz ≤ 8) (w : World) (h : IsW B w g l) (hl : l.length ≤ 1099511627776) (hB : B ≤ w.heap.size) :
    Calls Try.prog 33 #[.pointer (some ⟨g, 0, none⟩), .int .u64 (x : Int), .int .i64 (sz : Int)] w fun e w' => e = .returned (.tuple #[]) ∧ IsW B w' g (l ++ numB x sz) ∧ Below B w w' ∧ Spares g w w' := by
  obtain ⟨i0, hi0, hz0, hz1, hz2⟩ := info_parts info_u8
  go_enter Try.func33, Try.ntmps33
  go_wp2_with (first | (go_at_call 44; refine (may_yes _ (by omega) (by omega) _).mono ?_; rintro e w' ⟨rfl, rfl⟩))
  go_loopw [15] (fun i wr => ∃ k : Nat, k ≤ sz ∧ i = .int .i64 k ∧ IsW B wr g (l ++ (numB x sz).take k) ∧ Below B w wr ∧ Spares g w wr) (fun i _ => sz - (intOf i).toNat)
  case atStart => exact ⟨0, Nat.zero_le _, rfl, by simpa using h, Below.refl _ _, fun k hk => ⟨hk, rfl⟩⟩
  case round =>
    obtain ⟨k, hk, rfl, hW, hbw, hsp⟩ := hrel
    obtain ⟨hBg, v, hblk, hown⟩ := hW
    by_cases hlt : k < sz
    · have hone : One wr g 99 v := hblk
      obtain ⟨_, hcell, hfz⟩ := hone.all
      obtain ⟨e, he⟩ : ∃ e : Nat, e = sz - 1 - k := ⟨_, rfl⟩
      have hl' := hown.1
      have htk : ((numB x sz).take k).length = k := by simp [numB_length]; omega
      have hs1 : IntKind.i64.wrap ((sz : Int) - 1) = (sz : Int) - 1 := IntWalk.i64_in _ (by omega)
      have hs2 : IntKind.i64.wrap ((sz : Int) - 1 - (k : Int)) = (e : Int) := by rw [IntWalk.i64_in _ (by omega)]; omega
      have hs3 : IntKind.i64.wrap (8 * (e : Int)) = 8 * (e : Int) := IntWalk.i64_in _ (by omega)
      have hs4 : (0 : Int) ≤ 8 * (e : Int) := by omega
      have hlen : (l ++ (numB x sz).take k).length ≤ 1099511627786 := by simp [htk]; omega
      have HE := Lib.hid he
      have HTK := Lib.hid htk
      clear he htk hl'
      have hne := own_ne hown hblk (by decide)
      have hgs := blk_lt hblk
      have hbs := hbw.size
      have hBr : B ≤ wr.heap.size + 1 := by omega
      have hput := fun (o : Obj) (w1 : World) (v' : Value) (hg1 : ((wr.alloc o).drew).grownBy w1 v.ownBlock) (hat : v'.ownBlock = v.ownBlock ∨ v'.ownBlock = some (wr.alloc o).drew.heap.size) (hone1 : One w1 g 99 v) => spares_put (v' := v') hblk (((Below.refl _ _).alloc (Nat.le_refl _) o).drew) hg1 hat hone1
      have HPUT := Lib.hid hput
      clear hput
      have HSP := Lib.hid hsp
      clear hsp
      go_wp2
      go_region_law
        ((refine step_append_any _ (by rfl) _ _ _ (by rfl) B 5 i0 _ 1 1 Try.underlying35 hi0 hz0 hz1 hz2 rfl (by omega) v _ _ (by rfl) ((hown.alloc _).drew) _ _ 1 1 _ (by rfl) (Reads.one _ _ _) (by simp [Value.oneCell']) (by unfold maxLen; omega) (by omega) (by simpa using hBr) ?_; intro v' w1 hown1 hg1 hat1; obtain ⟨A', c', rfl⟩ := own_slice hown1; have HH := Lib.hid (HPUT.out _ w1 (.slice A' _ c') hg1 hat1); obtain ⟨hone1, hc1, hf1⟩ := (hone.grownA hg1 hne).all))
      all_goals
        go_wp2
        go_roundw
        case rel =>
          exact ⟨k + 1, by omega, by go_num, IsW.put hBg hone1 hown1 (by rw [numB_take _ _ _ hlt, ← HE.out, List.length_append, List.length_append, List.length_append, HTK.out]; simp; omega) (by simp) (by rw [numB_take _ _ _ hlt, ← HE.out, byte_of_shr _ _ (by have := HE.out; omega), ← List.append_assoc]; simp [bv]),
            ((hbw.alloc (by omega) _).drew.grown hg1 (by simpa using hBr) (fun k hk => own_base hown k hk)).setCell hBg _, HSP.out.trans (by simpa using HH.out hone1)⟩
        case measure => simp [intOf]; omega
    · have hks : k = sz := by omega
      subst hks
      go_wp2
      go_end0
      exact ⟨rfl, ⟨hBg, v, hblk, by rwa [List.take_of_length_le (by simp [numB_length])] at hown⟩, hbw, hsp⟩

end Go.Proofs.Ythmkmojlnfkfjaa
