/- Records in memory (layer 8). -/
import Derived.Test.YthijobbhpbklmaaSGive
namespace Go.Proofs.Ythijobbhpbklmaa
open Go.RowKit
set_option linter.unusedVariables false
set_option linter.unusedSimpArgs false

/-- A record: the change, its pages. -/
abbrev FRc := Nat × List Nat
def Pgs (pl : List Nat) : List Value := pl.map fun (x : Nat) => Value.int .u32 (x : Int)
theorem Pgs_length (pl : List Nat) : (Pgs pl).length = pl.length := by simp [Pgs]
theorem Pgs_snoc (pl : List Nat) (x : Nat) : Pgs (pl ++ [x]) = Pgs pl ++ [.int .u32 (x : Int)] := by simp [Pgs]
theorem Pgs_one (pl : List Nat) : ∀ u ∈ Pgs pl, u.oneCell' = true := by
  intro u hu
  simp only [Pgs, List.mem_map] at hu
  obtain ⟨x, _, rfl⟩ := hu
  rfl
def RcAt (w : World) (B : Nat) (ad : Addr) (r : FRc) (Ap : Option Addr) (np cp : Nat) : Prop :=
  ad.block < B ∧ w.cell? ad = some (.int .u64 (r.1 : Int)) ∧ w.cell? (ad.add 1) = some (.slice Ap np cp) ∧ Reads w B 1 Ap np (Pgs r.2)
theorem RcAt.below {w w' : World} {B : Nat} {ad : Addr} {r : FRc} {Ap : Option Addr} {np cp : Nat} (h : RcAt w B ad r Ap np cp) (hb : Below B w w') : RcAt w' B ad r Ap np cp :=
  ⟨h.1, (hb.cell h.1).trans h.2.1, (hb.cell (p := ad.add 1) (by rw [block_of_add]; exact h.1)).trans h.2.2.1, h.2.2.2.below hb⟩
theorem RcAt.more {w : World} {B B' : Nat} {ad : Addr} {r : FRc} {Ap : Option Addr} {np cp : Nat} (h : RcAt w B ad r Ap np cp) (hB : B ≤ B') : RcAt w B' ad r Ap np cp := ⟨by have := h.1; omega, h.2.1, h.2.2.1, h.2.2.2.more hB⟩
/-- Records, as they lie in rows below block B: two cells each. -/
def Recs (w : World) (B : Nat) (A : Option Addr) (n : Nat) (rs : List FRc) : Prop :=
  rs.length = n ∧ ∀ (i : Nat) (r : FRc), rs[i]? = some r → ∃ ad Ap np cp, A = some ad ∧ RcAt w B (ad.add (i * 2)) r Ap np cp
theorem Recs.below {w w' : World} {B : Nat} {A : Option Addr} {n : Nat} {rs : List FRc} (h : Recs w B A n rs) (hb : Below B w w') : Recs w' B A n rs :=
  ⟨h.1, fun i r hi => by obtain ⟨ad, Ap, np, cp, h1, h2⟩ := h.2 i r hi; exact ⟨ad, Ap, np, cp, h1, h2.below hb⟩⟩
theorem Recs.more {w : World} {B B' : Nat} {A : Option Addr} {n : Nat} {rs : List FRc} (h : Recs w B A n rs) (hB : B ≤ B') : Recs w B' A n rs :=
  ⟨h.1, fun i r hi => by obtain ⟨ad, Ap, np, cp, h1, h2⟩ := h.2 i r hi; exact ⟨ad, Ap, np, cp, h1, h2.more hB⟩⟩
theorem Recs.at_ {w : World} {B : Nat} {A : Option Addr} {n : Nat} {rs : List FRc} (h : Recs w B A n rs) {i : Nat} (hi : i < n) : ∃ r ad Ap np cp, rs[i]? = some r ∧ A = some ad ∧ RcAt w B (ad.add (i * 2)) r Ap np cp := by
  obtain ⟨r, hr⟩ : ∃ r, rs[i]? = some r := ⟨_, List.getElem?_eq_getElem (show i < rs.length by rw [h.1]; exact hi)⟩
  obtain ⟨ad, Ap, np, cp, h1, h2⟩ := h.2 i r hr
  exact ⟨r, ad, Ap, np, cp, hr, h1, h2⟩
def FROk (rs : List FRc) : Prop := ∀ r ∈ rs, r.1 < 18446744073709551616 ∧ ∀ x ∈ r.2, x < 4294967296

theorem Pgs_enc (pl : List Nat) : Pgs pl = pl.map encP := rfl
theorem info_pg : (Try.prog.info? 73).map (fun i => (i.zero, i.size, i.bytes)) = some (some (.int .u32 0), 1, 4) := by kernel_rfl
/-- slices.Clone of pages -/
theorem pclone_any (w : World) (B : Nat) (A : Option Addr) (n c : Nat) (l : List Nat) (h : Reads w B 1 A n (Pgs l)) (hc0 : A = none → c = 0) (hnc : n ≤ c) (hn : n ≤ 35184372088831) :
    Calls Try.prog 65 #[.slice A n c] w fun e w' => ∃ v, e = .returned v ∧ w'.ownsRow w.heap.size 73 1 v n (Pgs l) ∧ Below w.heap.size w w' := by
  obtain ⟨i0, hi0, hz0, hz1, hz2⟩ := info_parts info_pg
  have q := fun (w : World) (a : Option Addr) (n c n' c' : Nat) => Lib.run_eql_slice_nil (P := Try.prog) w _ _ a n c n' c' Try.underlying99
  rcases A with _ | ad
  · have hc := hc0 rfl
    have hn0 : n = 0 := by omega
    subst hc hn0
    have hl : l = [] := List.eq_nil_of_length_eq_zero (by have := h.1; rw [Pgs_length] at this; omega)
    subst hl
    clear h hn
    go_enter Try.func65, Try.ntmps65
    go_wp2
    go_ret
    exact ⟨_, rfl, World.ownsRow_nil _ _ _ _, Below.refl _ _⟩
  · go_enter Try.func65, Try.ntmps65
    go_wp2_with (first | (at_builtin; refine wpList_append_any _ rfl (.tmp 5) (.tmp 6) _ rfl w.heap.size 73 i0 _ 1 4 Try.underlying99 hi0 hz0 hz1 hz2 rfl (by omega) _ 0 [] rfl (World.ownsRow_made w #[] 0 (Nat.le_refl _) (by simp [maxLen]) rfl) B (some ad) n c _ rfl (h.alloc' _) (Pgs_one l) (by simp only [maxLen]; omega) (by omega) (by simp) ?_))
    intro v w1 hown hg hat
    go_wp2
    go_ret
    exact ⟨v, rfl, by simpa using hown, ((Below.refl _ _).alloc (Nat.le_refl _) _).grown hg (by simp) (fun k hk => by simp [Value.ownBlock] at hk; omega)⟩
end Go.Proofs.Ythijobbhpbklmaa
