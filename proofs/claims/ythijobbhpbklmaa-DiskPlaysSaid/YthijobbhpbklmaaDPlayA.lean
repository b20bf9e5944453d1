/- DiskPlays: full with a byte less; alike; From that fails. -/
import Derived.Test.YthijobbhpbklmaaDRefW
import Derived.Test.YthijobbhpbklmaaDNil
import Derived.Test.YthijobbhpbklmaaFrom
import Derived.BigQuiet
namespace Go.Proofs.Ythijobbhpbklmaa
open Go.RowKit Go.Proofs.YthijobbhpbklmaaW.PrintWords Go.Proofs.Ythijobbhpbklmaa.PDiskPlays
set_option linter.unusedVariables false
set_option linter.unusedSimpArgs false

theorem run_slice_pre {P : Program} (t e : TypeId) {i : TypeInfo} (ht : P.underlying t = some (.slice e)) (hi : P.info? e = some i) (hsz : i.size = 1) (g n c m : Nat) (hm : m ≤ n) (hc : n ≤ c) (h0 : 0 < c) (W : World) :
    (Instr.slice t (.slice (some ⟨g, 0, none⟩) n c) none (some (.int .i64 (m : Int))) none).run P W = .ok (.slice (some ⟨g, 0, none⟩) m c) W := by
  have hel : P.elem t = e := by simp [Program.elem, ht]
  have hu : P.underlying t = some (.slice (P.elem t)) := by rw [hel]; exact ht
  rw [run_slice_h W t (some ⟨g, 0, none⟩) n c hu .i64 (m : Int) (Int.natCast_nonneg _) (by omega), hel]
  have e1 : ¬ c = 0 := by omega
  simp [sizeOf, typeInfo, hi, hsz, sliced, Result.andThen, e1, add_plain]
set_option maxRecDepth 100000 in
theorem full_odd (w : World) (size : Nat) (h0 : 0 < size) (h1 : size ≤ 1000000) (B : Nat) (A : Option Addr) (n c : Nat) (b : List UInt8) (hb : Sl w B A n c b) (hB : B ≤ w.heap.size) (hn : 0 < n) (hn2 : n ≤ 9223372036854775807) :
    Calls Try.prog 22 #[.int .i64 (size : Int), .slice A n c, .bool true] w fun e w' => e = .returned (.slice (some ⟨w.heap.size, 0, none⟩) (size - 1) size) ∧ RowB w' w.heap.size (fullB size b) ∧ Below w.heap.size w w' := by
  have hd0 : decide (0 < n) = true := decide_eq_true hn
  have hd0' : decide ((0 : Int) < (n : Int)) = true := decide_eq_true (by omega)
  have hlen := hb.len
  have HB := Lib.hid hb
  obtain ⟨iu, ui0, uz0, uz1, uz2⟩ := info_parts info_u8
  obtain ⟨s1, hs1⟩ : ∃ s1, size - 1 = s1 := ⟨_, rfl⟩
  have hsi : (size : Int) - 1 = (s1 : Int) := by omega
  have hcut := run_slice_pre (P := Try.prog) 30 5 Try.underlying30 ui0 uz1 w.heap.size size size s1 (by omega) (Nat.le_refl _) (by omega)
  have hz0 : decide ((0 : Int) < (size : Int)) = true := decide_eq_true (by omega)
  have hz0' : decide (0 < size) = true := decide_eq_true (by omega)
  rw [hs1]
  clear hb
  go_enter Try.func22, Try.ntmps22
  go_wp2_with (first | (at_make; refine wpList_make_bytesN _ rfl _ _ _ rfl Try.underlying30 info_u8 _ _ _ rfl rfl size rfl (by omega) ?_; intro w2 hr2 hb2))
  go_loopw [8] (fun i wr => ∃ k : Nat, k ≤ size ∧ i = .int .i64 (k : Int) ∧ RowB wr w.heap.size (fullTo size b k) ∧ Below w.heap.size w wr) (fun i _ => size - (intOf i).toNat)
  case atStart => exact ⟨0, Nat.zero_le _, rfl, by rw [fullTo_zero]; exact hr2, hb2⟩
  case round =>
    obtain ⟨k, hk, rfl, hr, hbw⟩ := hrel
    by_cases hlt : k < size
    · have hd1 : decide (k < size) = true := decide_eq_true hlt
      have hd1' : decide ((k : Int) < (size : Int)) = true := decide_eq_true (by omega)
      have hm : k % n < n := Nat.mod_lt _ hn
      obtain ⟨ad, x, rfl, hx, hxc⟩ : ∃ ad x, A = some ad ∧ b[k % n]? = some x ∧ wr.cell? (ad.add (k % n)) = some (.int .u8 (x.toNat : Int)) := by
        obtain ⟨ad, u, ea, hb', hu, hc⟩ := (HB.out.below (Below.mono hbw hB)).reads.at_ hm
        simp only [bv, List.getElem?_map, Option.map_eq_some_iff] at hu
        obtain ⟨q, hq, rfl⟩ := hu
        exact ⟨ad, q, ea, hq, hc⟩
      have htm : (k : Int).tmod (n : Int) = ((k % n : Nat) : Int) := by rw [Int.tmod_eq_emod_of_nonneg (by omega)]; rfl
      have hnz : ¬ (n : Int) = 0 := by omega
      have hgl := fullTo_length size b k
      obtain ⟨y, hy⟩ : ∃ y, (fullTo size b k)[k]? = some y := ⟨_, List.getElem?_eq_getElem (by rw [hgl]; exact hlt)⟩
      have hyc := hr.cell hy
      have hyf := hr.frozen k
      have hr9 := hr.set_ k x
      rw [fullTo_succ size b k (by rw [hlen]; exact hx)] at hr9
      have HR9 := Lib.hid hr9
      have hb9 := hbw.setCell (p := ⟨w.heap.size, k, none⟩) (Nat.le_refl _) (.int .u8 (x.toNat : Int))
      have HB9 := Lib.hid hb9
      clear hr hr9 hb9 hy hgl hx
      go_wp2_with fail
      exact ⟨⟨k + 1, by omega, by go_num, HR9.out, HB9.out⟩, by simp [intOf]; omega⟩
    · obtain rfl : k = size := by omega
      go_wp2_with fail
      go_ret
      exact ⟨rfl, hr, hbw⟩
set_option maxRecDepth 100000 in
theorem full_none_odd (w : World) (size : Nat) (h0 : 0 < size) (h1 : size ≤ 1000000) (A : Option Addr) (c : Nat) :
    Calls Try.prog 22 #[.int .i64 (size : Int), .slice A 0 c, .bool true] w fun e w' => e = .returned (.slice (some ⟨w.heap.size, 0, none⟩) (size - 1) size) ∧ RowB w' w.heap.size (fullB size []) ∧ Below w.heap.size w w' := by
  have hd1 : decide (0 < size) = true := decide_eq_true h0
  have hd1' : decide ((0 : Int) < (size : Int)) = true := decide_eq_true (by omega)
  obtain ⟨iu, ui0, uz0, uz1, uz2⟩ := info_parts info_u8
  obtain ⟨s1, hs1⟩ : ∃ s1, size - 1 = s1 := ⟨_, rfl⟩
  have hsi : (size : Int) - 1 = (s1 : Int) := by omega
  have hcut := run_slice_pre (P := Try.prog) 30 5 Try.underlying30 ui0 uz1 w.heap.size size size s1 (by omega) (Nat.le_refl _) (by omega)
  rw [hs1]
  go_enter Try.func22, Try.ntmps22
  go_wp2_with (first | (at_make; refine wpList_make_bytesN _ rfl _ _ _ rfl Try.underlying30 info_u8 _ _ _ rfl rfl size rfl (by omega) ?_; intro w2 hr2 hb2))
  go_loopw [8] (fun i wr => i = .int .i64 0 ∧ wr = w2) (fun i _ => 0)
  case atStart => exact ⟨rfl, rfl⟩
  case round =>
    obtain ⟨rfl, rfl⟩ := hrel
    go_wp2_with fail
    go_ret
    exact ⟨rfl, by rw [fullB_nil]; exact hr2, hb2⟩

/-- alike -/
theorem alike_any (w : World) (base : Nat) (ok : Nat → Prop) (p : Nat) (D : Dk) (h : DiskAt w base ok p D) (A2 A3 : Option Addr) (c2 c3 : Nat) :
    Calls Try.prog 36 #[.pointer (some ⟨p, 0, none⟩), .agg #[.int .i64 (D.size : Int), .int .i64 (D.limit : Int), .slice A2 D.good.length c2, .slice A3 D.loose.length c3, .int .i64 D.fails, .int .i64 (D.calls : Int)]] w fun e w' => e = .returned (.bool true) ∧ Below w.heap.size w w' := by
  obtain ⟨n2, hn2⟩ : ∃ n, D.good.length = n := ⟨_, rfl⟩
  obtain ⟨n3, hn3⟩ : ∃ n, D.loose.length = n := ⟨_, rfl⟩
  obtain ⟨S, hS⟩ : ∃ n, D.size = n := ⟨_, rfl⟩
  obtain ⟨L, hL⟩ : ∃ n, D.limit = n := ⟨_, rfl⟩
  obtain ⟨C, hC⟩ : ∃ n, D.calls = n := ⟨_, rfl⟩
  have hlen := fun (W : World) (hb : Below w.heap.size w W) => dlen_any (h.below hb)
  have hsize := fun (W : World) (hb : Below w.heap.size w W) => dsize_any (h.below hb)
  have hlimit := fun (W : World) (hb : Below w.heap.size w W) => dlimit_any (h.below hb)
  have hloose := fun (W : World) (hb : Below w.heap.size w W) => dloose_any (h.below hb)
  have hcalls := fun (W : World) (hb : Below w.heap.size w W) => dcalls_any (h.below hb)
  rw [hn2] at hlen ⊢
  rw [hS] at hsize ⊢
  rw [hL] at hlimit ⊢
  rw [hn3] at hloose ⊢
  rw [hC] at hcalls ⊢
  have hb1 : Below w.heap.size w (w.alloc (.cells #[.int .i64 (S : Int), .int .i64 (L : Int), .slice A2 n2 c2, .slice A3 n3 c3, .int .i64 D.fails, .int .i64 (C : Int)] 47)) := (Below.refl _ w).alloc (Nat.le_refl _) _
  have HB := fun nq => below_drewN hb1 nq
  have hX : RBox (w.alloc (.cells #[.int .i64 (S : Int), .int .i64 (L : Int), .slice A2 n2 c2, .slice A3 n3 c3, .int .i64 D.fails, .int .i64 (C : Int)] 47)) w.heap.size S L (.slice A2 n2 c2) (.slice A3 n3 c3) D.fails C := heap_alloc_new w _
  clear h hn2 hn3 hS hL hC
  generalize D.fails = F at hX hb1 HB ⊢
  have HL := Lib.hid hlen
  have HS := Lib.hid hsize
  have HI := Lib.hid hlimit
  have HO := Lib.hid hloose
  have HC := Lib.hid hcalls
  clear hlen hsize hlimit hloose hcalls
  go_enter Try.func36, Try.ntmps36
  go_wp2_with fail
  obtain ⟨x0, x1, x2, x3, x4, x5⟩ := hX.cells
  generalize hW : w.alloc (.cells #[.int .i64 (S : Int), .int .i64 (L : Int), .slice A2 n2 c2, .slice A3 n3 c3, .int .i64 F, .int .i64 (C : Int)] 47) = w1 at *
  have HB2 := Lib.hid HB
  clear HB
  go_quiet (first | exact (HL.out _ (HB2.out _)).mono (fun e w'' hh => ⟨hh.1, _, hh.2.symm⟩) | exact (HS.out _ (HB2.out _)).mono (fun e w'' hh => ⟨hh.1, _, hh.2.symm⟩) | exact (HI.out _ (HB2.out _)).mono (fun e w'' hh => ⟨hh.1, _, hh.2.symm⟩) | exact (HO.out _ (HB2.out _)).mono (fun e w'' hh => ⟨hh.1, _, hh.2.symm⟩) | exact (HC.out _ (HB2.out _)).mono (fun e w'' hh => ⟨hh.1, _, hh.2.symm⟩))
  go_wp2_with fail
  go_ret
  exact ⟨rfl, HB2.out _⟩
end Go.Proofs.Ythijobbhpbklmaa
