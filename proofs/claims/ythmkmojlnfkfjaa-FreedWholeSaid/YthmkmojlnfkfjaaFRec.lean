/- Layer 10: records in memory. -/
import Derived.Test.YthmkmojlnfkfjaaFSpread
namespace Go.Proofs.Ythmkmojlnfkfjaa
open Go.RowKit
set_option linter.unusedVariables false
set_option linter.unusedSimpArgs false

/-- A record: the change, its pages. -/
abbrev FRc := Nat × List Nat
def Pgs (pl : List Nat) : List Value := pl.map fun (x : Nat) => Value.int .u32 (x : Int)
theorem Pgs_length (pl : List Nat) : (Pgs pl).length = pl.length := by simp [Pgs]
theorem Pgs_snoc (pl : List Nat) (x : Nat) : Pgs (pl ++ [x]) = Pgs pl ++ [.int .u32 (x : Int)] := by simp [Pgs]
theorem Pgs_one (pl : List Nat) : ∀ u ∈ Pgs pl, u.oneCell' = true := by
  intro u hu
  simp only [Pgs, List.mem_map] at hu
  obtain ⟨x, _, rfl⟩ := hu
  rfl
def RcAt (w : World) (B : Nat) (ad : Addr) (r : FRc) (Ap : Option Addr) (np cp : Nat) : Prop :=
  ad.block < B ∧ w.cell? ad = some (.int .u64 (r.1 : Int)) ∧ w.cell? (ad.add 1) = some (.slice Ap np cp) ∧ Reads w B 1 Ap np (Pgs r.2)
theorem RcAt.below {w w' : World} {B : Nat} {ad : Addr} {r : FRc} {Ap : Option Addr} {np cp : Nat} (h : RcAt w B ad r Ap np cp) (hb : Below B w w') : RcAt w' B ad r Ap np cp :=
  ⟨h.1, (hb.cell h.1).trans h.2.1, (hb.cell (p := ad.add 1) (by rw [block_of_add]; exact h.1)).trans h.2.2.1, h.2.2.2.below hb⟩
theorem RcAt.more {w : World} {B B' : Nat} {ad : Addr} {r : FRc} {Ap : Option Addr} {np cp : Nat} (h : RcAt w B ad r Ap np cp) (hB : B ≤ B') : RcAt w B' ad r Ap np cp := ⟨by have := h.1; omega, h.2.1, h.2.2.1, h.2.2.2.more hB⟩
/-- Records, as they lie in rows below block B: two cells each. -/
def Recs (w : World) (B : Nat) (A : Option Addr) (n : Nat) (rs : List FRc) : Prop :=
  rs.length = n ∧ ∀ (i : Nat) (r : FRc), rs[i]? = some r → ∃ ad Ap np cp, A = some ad ∧ RcAt w B (ad.add (i * 2)) r Ap np cp
theorem Recs.below {w w' : World} {B : Nat} {A : Option Addr} {n : Nat} {rs : List FRc} (h : Recs w B A n rs) (hb : Below B w w') : Recs w' B A n rs :=
  ⟨h.1, fun i r hi => by obtain ⟨ad, Ap, np, cp, h1, h2⟩ := h.2 i r hi; exact ⟨ad, Ap, np, cp, h1, h2.below hb⟩⟩
theorem Recs.more {w : World} {B B' : Nat} {A : Option Addr} {n : Nat} {rs : List FRc} (h : Recs w B A n rs) (hB : B ≤ B') : Recs w B' A n rs :=
  ⟨h.1, fun i r hi => by obtain ⟨ad, Ap, np, cp, h1, h2⟩ := h.2 i r hi; exact ⟨ad, Ap, np, cp, h1, h2.more hB⟩⟩
theorem Recs.at_ {w : World} {B : Nat} {A : Option Addr} {n : Nat} {rs : List FRc} (h : Recs w B A n rs) {i : Nat} (hi : i < n) : ∃ r ad Ap np cp, rs[i]? = some r ∧ A = some ad ∧ RcAt w B (ad.add (i * 2)) r Ap np cp := by
  obtain ⟨r, hr⟩ : ∃ r, rs[i]? = some r := ⟨_, List.getElem?_eq_getElem (show i < rs.length by rw [h.1]; exact hi)⟩
  obtain ⟨ad, Ap, np, cp, h1, h2⟩ := h.2 i r hr
  exact ⟨r, ad, Ap, np, cp, hr, h1, h2⟩
def FROk (rs : List FRc) : Prop := ∀ r ∈ rs, r.1 < 18446744073709551616 ∧ ∀ x ∈ r.2, x < 4294967296

/-- Records as cells, their pages in rows of their own between base and b. -/
def GPk (w : World) (base b : Nat) (cs : List Value) (rs : List FRc) : Prop :=
  cs.length = rs.length * 2 ∧ ∀ (i : Nat) (r : FRc), rs[i]? = some r → ∃ Ap np cp, cs[i * 2]? = some (.int .u64 (r.1 : Int)) ∧ cs[i * 2 + 1]? = some (.slice Ap np cp) ∧
    w.ownsRow base 38 1 (.slice Ap np cp) np (Pgs r.2) ∧ ∀ g, (Value.slice Ap np cp).ownBlock = some g → g < b
theorem GPk.nil_ (w : World) (base b : Nat) : GPk w base b [] [] := ⟨rfl, by simp⟩
theorem own_same_b {w w' : World} {base : Nat} {e : TypeId} {size n : Nat} {v : Value} {xs : List Value} (h : w.ownsRow base e size v n xs) (hk : ∀ (g : Nat) (C : Array Value), v.ownBlock = some g → w.heap[g]? = some (.cells C e (0, 0)) → w'.heap[g]? = w.heap[g]?) : w'.ownsRow base e size v n xs := by
  obtain ⟨h1, h2⟩ := h
  refine ⟨h1, ?_⟩
  rcases h2 with h2 | ⟨g, cap, cur, hv, hg, hh, r⟩
  · exact Or.inl h2
  · exact Or.inr ⟨g, cap, cur, hv, hg, (hk g _ (by rw [hv]; rfl) hh).trans hh, r⟩
theorem GPk.same {w w' : World} {base b : Nat} {cs : List Value} {rs : List FRc} (h : GPk w base b cs rs) (hk : ∀ (g : Nat) (C : Array Value), g < b → w.heap[g]? = some (.cells C 38 (0, 0)) → w'.heap[g]? = w.heap[g]?) : GPk w' base b cs rs :=
  ⟨h.1, fun i r hi => by
    obtain ⟨Ap, np, cp, h1, h2, h3, h4⟩ := h.2 i r hi
    exact ⟨Ap, np, cp, h1, h2, own_same_b h3 fun g C hg hc => hk g C (h4 g hg) hc, h4⟩⟩
theorem GPk.snoc {w : World} {base b b' : Nat} {cs : List Value} {rs : List FRc} (h : GPk w base b cs rs) {T : Nat} {pl : List Nat} {A : Option Addr} {n c : Nat} (ho : w.ownsRow b 38 1 (.slice A n c) n (Pgs pl)) (hb : base ≤ b) (hb' : b ≤ b') (hw : w.heap.size ≤ b') :
    GPk w base b' (cs ++ [.int .u64 (T : Int), .slice A n c]) (rs ++ [(T, pl)]) := by
  have hl := h.1
  refine ⟨by simp [hl]; omega, fun i r hi => ?_⟩
  by_cases hlt : i < rs.length
  · rw [List.getElem?_append_left hlt] at hi
    obtain ⟨Ap, np, cp, h1, h2, h3, h4⟩ := h.2 i r hi
    exact ⟨Ap, np, cp, by rw [List.getElem?_append_left (by omega)]; exact h1, by rw [List.getElem?_append_left (by omega)]; exact h2, h3, fun g hg => by have := h4 g hg; omega⟩
  · have hlen := (List.getElem?_eq_some_iff.1 hi).1
    simp at hlen
    obtain rfl : i = rs.length := by omega
    simp at hi
    subst hi
    exact ⟨A, n, c, by rw [← hl]; simp, by rw [← hl, List.getElem?_append_right (by omega)]; simp, own_weaken ho hb, fun g hg => by have := (ho.lt g hg).2; omega⟩
theorem GPk.recs {w : World} {base b b2 : Nat} {e : TypeId} {A : Option Addr} {n c : Nat} {cs : List Value} {rs : List FRc} (h : GPk w base b cs rs) (hr : w.ownsRow b2 e 2 (.slice A n c) n cs) : Recs w w.heap.size A n rs := by
  have hR := Reads.of_own hr
  have hl := h.1
  have hl2 := hR.1
  refine ⟨by omega, fun i r hi => ?_⟩
  have hlt := (List.getElem?_eq_some_iff.1 hi).1
  obtain ⟨Ap, np, cp, h1, h2, h3, _⟩ := h.2 i r hi
  obtain ⟨ad, rfl, hb, hc⟩ := hR.2 (by omega)
  exact ⟨ad, Ap, np, cp, rfl, by rw [block_of_add]; exact hb, hc _ _ h1, by rw [add_of_add]; exact hc _ _ h2, Reads.of_own h3⟩

/-- Pairs as records. -/
def gaStep (rs : List FRc) (p : FP) : List FRc :=
  match rs.getLast? with
  | none => [(p.1, [p.2])]
  | some (t, pl) => if t = p.1 then rs.dropLast ++ [(t, pl ++ [p.2])] else rs ++ [(p.1, [p.2])]
def fGa (ps : List FP) : List FRc := ps.foldl gaStep []
theorem fGa_snoc (ps : List FP) (p : FP) : fGa (ps ++ [p]) = gaStep (fGa ps) p := by simp [fGa, List.foldl_append]
theorem gaStep_nil (p : FP) : gaStep [] p = [] ++ [(p.1, [] ++ [p.2])] := rfl
theorem gaStep_same (rs : List FRc) (t : Nat) (pl : List Nat) (p : FP) (h : t = p.1) : gaStep (rs ++ [(t, pl)]) p = rs ++ [(t, pl ++ [p.2])] := by
  simp [gaStep, h]
theorem gaStep_new (rs : List FRc) (t : Nat) (pl : List Nat) (p : FP) (h : ¬ t = p.1) : gaStep (rs ++ [(t, pl)]) p = (rs ++ [(t, pl)]) ++ [(p.1, [] ++ [p.2])] := by
  simp [gaStep, h]

end Go.Proofs.Ythmkmojlnfkfjaa
