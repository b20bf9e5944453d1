/- SRfQ; SRfR -/
import Derived.Test.YthijobbhpbklmaaSpPl12
import Derived.Test.YthijobbhpbklmaaSpPl13
import Derived.Deep.DeepCutAuto
import Derived.Deep.QuietTactic
import Derived.BigQuiet
/- SpacePlays: the reference's Records, by hand. -/
namespace Go.Proofs.Ythijobbhpbklmaa
open Go.RowKit
set_option linter.unusedVariables false
set_option linter.unusedSimpArgs false

theorem info_R : (Try.prog.info? 139).map (fun i => (i.zero, i.size, i.bytes)) = some (some (.agg #[.int .u64 0, .slice none 0 0]), 2, 32) := by kernel_rfl
/-- What the cells of the reference's records are. -/
def RCells (w : World) (base : Nat) (cs : List Value) (rs : List FRc) : Prop :=
  cs.length = rs.length * 2 ∧ ∀ (i : Nat) (r : FRc), rs[i]? = some r → ∃ A n c, cs[i * 2]? = some (.int .u64 (r.1 : Int)) ∧ cs[i * 2 + 1]? = some (.slice A n c) ∧ w.ownsRow base 61 1 (.slice A n c) n (Pgs r.2)
/-- The reference's records in memory. -/
def RRow (w : World) (base : Nat) (v : Value) (rs : List FRc) : Prop := ∃ cs, w.ownsRow base 139 2 v rs.length cs ∧ RCells w base cs rs
section
variable {w w' : World} {base : Nat} {cs : List Value} {rs : List FRc} {v : Value}
theorem RCells.keep (h : RCells w base cs rs) (hk : ∀ (g : Nat) (C : Array Value), w.heap[g]? = some (.cells C 61 (0, 0)) → w'.heap[g]? = w.heap[g]?) : RCells w' base cs rs :=
  ⟨h.1, fun i r hi => by
    obtain ⟨A, n, c, a1, a2, a3⟩ := h.2 i r hi
    exact ⟨A, n, c, a1, a2, own_move_ a3 fun g C _ hC => hk g C hC⟩⟩
theorem RRow.below (h : RRow w base v rs) (hb : Below w.heap.size w w') : RRow w' base v rs := by
  obtain ⟨cs, h1, h2⟩ := h
  exact ⟨cs, own_move_ h1 fun g C _ hC => hb.block g (blk_lt hC), h2.keep fun g C hC => hb.block g (blk_lt hC)⟩
theorem RRow.nil_ (w : World) (base : Nat) : RRow w base (.slice none 0 0) [] := ⟨[], World.ownsRow_nil _ _ _ _, rfl, fun i r hi => by cases hi⟩
theorem RCells.snoc {A : Option Addr} {n c T : Nat} {pl : List Nat} (h : RCells w base cs rs) (ho : w.ownsRow base 61 1 (.slice A n c) n (Pgs pl)) : RCells w base (cs ++ [.int .u64 (T : Int), .slice A n c]) (rs ++ [(T, pl)]) := by
  obtain ⟨h1, h2⟩ := h
  refine ⟨by simp [h1]; omega, fun i r hi => ?_⟩
  by_cases hlt : i < rs.length
  · rw [List.getElem?_append_left hlt] at hi
    obtain ⟨A', n', c', a1, a2, a3⟩ := h2 i r hi
    exact ⟨A', n', c', by rw [List.getElem?_append_left (by omega)]; exact a1, by rw [List.getElem?_append_left (by omega)]; exact a2, a3⟩
  · rw [List.getElem?_append_right (by omega)] at hi
    have hl := (List.getElem?_eq_some_iff.1 hi).1
    have e : i = rs.length := by simp at hl; omega
    subst e
    simp at hi
    subst hi
    exact ⟨A, n, c, by rw [List.getElem?_append_right (by omega), h1]; simp, by rw [List.getElem?_append_right (by omega), h1]; simp, ho⟩
/-- One record more. -/
theorem RRow.snoc {w8 : World} {A A1 : Option Addr} {n c n1 c1 T : Nat} {pl : List Nat} {v8 : Value} (hn : rs.length = n1) (h1 : w.ownsRow base 139 2 (.slice A1 n1 c1) n1 cs) (h2 : RCells w base cs rs) (ho : w.ownsRow base 61 1 (.slice A n c) n (Pgs pl))
    (h8 : w8.ownsRow base 139 2 v8 (n1 + 1) (cs ++ [.int .u64 (T : Int), .slice A n c])) (hg : w.grownBy w8 (Value.slice A1 n1 c1).ownBlock) : RRow w8 base v8 (rs ++ [(T, pl)]) := by
  refine ⟨_, by rw [List.length_append, hn]; exact h8, (h2.snoc ho).keep fun g C hC => hg.block g (blk_lt hC) (own_ne h1 hC (by decide))⟩
theorem RRow.sl (h : RRow w base v rs) : ∃ A c, v = .slice A rs.length c := by
  obtain ⟨cs, h1, _⟩ := h
  exact own_slice h1
theorem RCells.ones (h : RCells w base cs rs) : ∀ u ∈ cs, u.oneCell' = true := by
  intro u hu
  obtain ⟨j, hj⟩ := List.getElem?_of_mem hu
  have hl := (List.getElem?_eq_some_iff.1 hj).1
  have h1 := h.1
  obtain ⟨r, hr⟩ : ∃ r, rs[j / 2]? = some r := ⟨_, List.getElem?_eq_getElem (by omega)⟩
  obtain ⟨A, n, c, a1, a2, _⟩ := h.2 _ r hr
  rcases Nat.mod_two_eq_zero_or_one j with e | e
  · rw [show j / 2 * 2 = j by omega, hj] at a1
    injection a1 with a1
    subst a1
    rfl
  · rw [show j / 2 * 2 + 1 = j by omega, hj] at a2
    injection a2 with a2
    subst a2
    rfl
/-- Read. -/
theorem RRow.recs (h : RRow w base v rs) : ∃ A c, v = .slice A rs.length c ∧ Recs w w.heap.size A rs.length rs ∧ Caps w A rs.length c rs := by
  obtain ⟨cs, h1, h2, h3⟩ := h
  obtain ⟨A, c, rfl⟩ := own_slice h1
  have hcap : rs.length ≤ c ∧ c ≤ 9223372036854775807 := by
    rcases h1.2 with ⟨e, _⟩ | ⟨g, cap, cur, e, _, _, q1, q2, _⟩
    · injection e with e1 e2 e3
      omega
    · injection e with e1 e2 e3
      simp only [maxLen] at q2
      omega
  have hrd := Reads.of_own h1
  have key : ∀ (i : Nat) (r : FRc), rs[i]? = some r → ∃ (ad : Addr) (Ap : Option Addr) (np cp : Nat), A = some ad ∧ (ad.add (i * 2)).block < w.heap.size ∧ w.cell? (ad.add (i * 2)) = some (.int .u64 (r.1 : Int)) ∧ w.cell? ((ad.add (i * 2)).add 1) = some (.slice Ap np cp) ∧ Reads w w.heap.size 1 Ap np (Pgs r.2) ∧ np ≤ cp ∧ cp ≤ 9223372036854775807 := fun i r hi => by
    obtain ⟨A', n', c', a1, a2, a3⟩ := h3 i r hi
    have hlt := (List.getElem?_eq_some_iff.1 hi).1
    obtain ⟨ad, rfl, hB, hcell⟩ := hrd.2 (by omega)
    refine ⟨ad, A', n', c', rfl, by rw [block_of_add]; exact hB, hcell _ _ a1, by rw [Go.Deep.add_add]; exact hcell _ _ a2, Reads.of_own a3, ?_⟩
    rcases a3.2 with ⟨e, _⟩ | ⟨g, cap, cur, e, _, _, q1, q2, _⟩
    · injection e with e1 e2 e3
      omega
    · injection e with e1 e2 e3
      simp only [maxLen] at q2
      omega
  refine ⟨A, c, rfl, ⟨rfl, fun i r hi => ?_⟩, hcap, fun i r hi => ?_⟩
  · obtain ⟨ad, Ap, np, cp, e1, e2, e3, e4, e5, e6⟩ := key i r hi
    exact ⟨ad, Ap, np, cp, e1, e2, e3, e4, e5⟩
  · obtain ⟨ad, Ap, np, cp, e1, e2, e3, e4, e5, e6⟩ := key i r hi
    exact ⟨ad, Ap, np, cp, e1, e4, e6⟩
end
theorem own_alloc_s {W : World} {base n size : Nat} {e : TypeId} {v : Value} {xs : List Value} (o : W.ownsRow base e size v n xs) (b : Obj) : (W.alloc b).ownsRow base e size v n xs := own_move_ o fun g C _ hC => Below.heap_alloc W _ g (blk_lt hC)
/-- The call's box and its records. -/
def Rk (w W : World) (v : Value) (rs : List FRc) (A : Option Addr) (n c : Nat) (A2 : Option Addr) (c2 : Nat) (m : Int) : Prop :=
  RRow W w.heap.size v rs ∧ Below w.heap.size w W ∧ W.heap[w.heap.size]? = some (.cells #[.slice A n c, .slice A2 n c2, .int .i64 m] 77 (0, 0))
section
variable {w W W' : World} {v : Value} {rs : List FRc} {A : Option Addr} {n c : Nat} {A2 : Option Addr} {c2 : Nat} {m : Int}
theorem Rk.below (h : Rk w W v rs A n c A2 c2 m) (hb : Below W.heap.size W W') : Rk w W' v rs A n c A2 c2 m :=
  ⟨h.1.below hb, h.2.1.trans (hb.mono h.2.1.size), blk_below h.2.2 hb (blk_lt h.2.2)⟩
theorem Rk.cells (h : Rk w W v rs A n c A2 c2 m) : W.cell? ⟨w.heap.size, 0, none⟩ = some (.slice A n c) ∧ W.cell? ⟨w.heap.size, 1, none⟩ = some (.slice A2 n c2) ∧ W.cell? ⟨w.heap.size, 2, none⟩ = some (.int .i64 m) := ⟨blk_cell h.2.2 0, blk_cell h.2.2 1, blk_cell h.2.2 2⟩
end
set_option maxRecDepth 100000 in
/-- One record is appended. -/
theorem rapp_any {w W : World} {v : Value} {rs : List FRc} {A : Option Addr} {n c : Nat} {A2 : Option Addr} {c2 : Nat} {m : Int} (h : Rk w W v rs A n c A2 c2 m) (hl : rs.length ≤ 1000000) {A1 : Option Addr} {n1 c1 T : Nat} {pl : List Nat} (ho : W.ownsRow w.heap.size 61 1 (.slice A1 n1 c1) n1 (Pgs pl)) {ops : Array Oper} {rest : List Oper} {o : Oper} {a : Act} {Q : Exit → Act → World → Prop} (hgd : o.guard = none) (s x : Operand)
    (hop : o.op = .call { callee := .builtin .append, args := #[s, x], argTypes := #[67, 67] }) (hs : a.eval s = v) (hx : a.eval x = .slice (some ⟨W.heap.size, 0, none⟩) 1 1)
    (hQ : ∀ (v8 : Value) (w8 : World), Rk w w8 v8 (rs ++ [(T, pl)]) A n c A2 c2 m → wpList Try.prog ops Q rest (a.put o.dst v8) w8) :
    wpList Try.prog ops Q (o :: rest) a (W.alloc (.cells #[.int .u64 (T : Int), .slice A1 n1 c1] 139)) := by
  obtain ⟨ir, ri0, rz0, rz1, rz2⟩ := info_parts info_R
  obtain ⟨⟨cs, h1, h2⟩, h3, h4⟩ := h
  obtain ⟨Av, cv, rfl⟩ := own_slice h1
  have hb1 : Below W.heap.size W (W.alloc (.cells #[.int .u64 (T : Int), .slice A1 n1 c1] 139)) := (Below.refl _ _).alloc (Nat.le_refl _) _
  have h1a := own_alloc_s h1 (.cells #[.int .u64 (T : Int), .slice A1 n1 c1] 139)
  refine wpList_append_any _ hgd s x _ hop w.heap.size 139 ir _ 2 32 Try.underlying67 ri0 rz0 rz1 rz2 rfl (by omega) (.slice Av rs.length cv) rs.length cs hs h1a (W.heap.size + 1) _ 1 1 _ hx (reads_two W _ _ _) (by simp [Value.oneCell']) (by simp only [maxLen]; omega) (by omega) (by simp; have := h3.size; omega) ?_
  intro v8 w8 ho8 hg8 hat8
  exact hQ v8 w8 ⟨RRow.snoc rfl h1a (h2.keep fun g C hC => hb1.block g (blk_lt hC)) (own_alloc_ ho _) ho8 hg8, (h3.alloc h3.size _).grown hg8 (by simp; have := h3.size; omega) (fun k hk => own_base h1a k hk), blk_grown (blk_alloc h4 _) hg8 (own_ne h1a (blk_alloc h4 _) (by decide))⟩
theorem scanW_go {S : Sp} {T : Nat → Nat} {last k : Nat} (hc : pcode S k = 2) (hl : last < T k) : scanW S T last (k + 1) = (match scanW S T last k with | none => some (T k) | some m => if T k < m then some (T k) else some m) := by
  conv => lhs; unfold scanW
  rw [if_pos ⟨hc, hl⟩]
  rfl
theorem scanW_no {S : Sp} {T : Nat → Nat} {last k : Nat} (h : ¬ (pcode S k = 2 ∧ last < T k)) : scanW S T last (k + 1) = scanW S T last k := by
  conv => lhs; unfold scanW
  rw [if_neg h]
/-- A list's length, a bool. -/
def lenV : Value → Nat
  | .slice _ n _ => n
  | _ => 0
def boolV : Value → Nat
  | .bool true => 1
  | _ => 0
set_option maxRecDepth 100000 in
set_option maxHeartbeats 4000000 in
/-- Records -/
theorem rrecords_any (w : World) (ok : Nat → Prop) (S : Sp) (hw : S.OK) (v1 v2 : Value) (m : Int) (T : Nat → Nat) (h1 : IR w ok .i64 v1 (pwl S)) (h2 : IR w ok .u64 v2 (ptl S.fin T)) (hT : TW S T) (hpos : ∀ r ∈ S.wait, 0 < r.1) (hwl : S.wait.length ≤ 1000) (t : Nat) :
    Calls Try.prog 52 #[.agg #[v1, v2, .int .i64 m], .int .u64 (t : Int)] w fun e w' => ∃ v, e = .returned v ∧ RRow w' w.heap.size v (sRecs S t) ∧ Below w.heap.size w w' := by
  have e2 := hw.e2
  have e3 := hw.e3
  obtain ⟨A, c1, rfl⟩ := h1.sl
  obtain ⟨A2, c2, rfl⟩ := h2.sl
  have hlen := pwl_length S
  have hlen2 := ptl_length S.fin T
  rw [hlen] at h1 ⊢
  rw [hlen2] at h2 ⊢
  have HH1 := Lib.hid h1
  have HH2 := Lib.hid h2
  have HTW := Lib.hid hT
  have HPO := Lib.hid hpos
  have HP1 : Hid (pickP S.fin (fP S T 1 0 false) = srt S.us) := Lib.hid (pick_us hw T 0)
  have HP4 : Hid (pickP S.fin (fP S T 4 0 false) = srt S.gn) := Lib.hid (pick_gn hw T 0)
  have HPW : Hid (∀ r ∈ S.wait, pickP S.fin (fP S T 2 r.1 true) = r.2) := Lib.hid (fun r hr => pick_wait hw hT hr)
  clear h1 h2 hlen hlen2 hT hpos
  have HK0 : Hid (Rk w (w.alloc (.cells #[.slice A S.fin c1, .slice A2 S.fin c2, .int .i64 m] 77)) (.slice none 0 0) [] A S.fin c1 A2 c2 m) := Lib.hid ⟨RRow.nil_ _ _, (Below.refl _ _).alloc (Nat.le_refl _) _, heap_alloc_new w _⟩
  go_enter Try.func52, Try.ntmps52
  go_wp2_with fail
  refine (rsome_any _ ok S hw _ _ m T (HH1.out.below HK0.out.2.1) (HH2.out.below HK0.out.2.1) 1 0 false).mono ?_
  rintro x w1 ⟨v, rfl, ho, hb⟩
  rw [HP1.out] at ho
  obtain ⟨Av, cv, rfl⟩ := own_slice ho
  have HK1 := Lib.hid (HK0.out.below hb)
  have HO1 := Lib.hid (own_weaken ho HK0.out.2.1.size)
  have hsl : (srt S.us).length = S.us.length := srt_length _
  obtain ⟨nu, hnu⟩ : ∃ nu, (srt S.us).length = nu := ⟨_, rfl⟩
  have HNU : Hid (S.us.length = nu) := Lib.hid (by rw [← hsl]; exact hnu)
  rw [hnu] at HO1 ⊢
  clear ho hb hsl hnu HK0
  go_upto_if 15 with fail
  go_cut [5] (fun o wc => Hid (Rk w wc o (rec1 S.us 0) A S.fin c1 A2 c2 m))
  case first =>
    by_cases h0 : nu = 0
    · have d5 : decide (0 < (nu : Int)) = false := decide_eq_false (by omega)
      have d5' : decide (0 < nu) = false := decide_eq_false (by omega)
      have hl0 : Hid (S.us = []) := Lib.hid (List.eq_nil_of_length_eq_zero (by rw [HNU.out]; exact h0))
      go_wp2_with fail
      go_meet
      case rel => exact Lib.hid (by rw [hl0.out, rec1_nil]; exact HK1.out)
    · have d5 : decide (0 < (nu : Int)) = true := decide_eq_true (by omega)
      have d5' : decide (0 < nu) = true := decide_eq_true (by omega)
      have hl0 : Hid (S.us ≠ []) := Lib.hid (fun hh => h0 (by rw [← HNU.out, hh]; rfl))
      go_wp2_with (first | (at_builtin; refine rapp_any HK1.out (by simp) HO1.out rfl (.tmp 16) (.tmp 19) rfl rfl rfl ?_; intro v8 w8 hk8; have HK8 := Lib.hid hk8; clear hk8))
      go_meet
      case rel => exact Lib.hid (by unfold rec1; rw [if_neg hl0.out]; exact HK8.out)
  case rest =>
    have HKc := hcut
    obtain ⟨n0, hn0⟩ : ∃ n0, (rec1 S.us 0).length = n0 := ⟨_, rfl⟩
    have hn1 : n0 ≤ 1 := by rw [← hn0]; exact rec1_len _ _
    obtain ⟨wl, hwle⟩ : ∃ wl, S.wait.length = wl := ⟨_, rfl⟩
    rw [hwle] at hwl
    have HN0 := Lib.hid hn0
    have HWL := Lib.hid hwle
    have hlv : ∀ (W : World) (o : Value) (j : Nat), j ≤ wl → Rk w W o (rec1 S.us 0 ++ S.wait.take j) A S.fin c1 A2 c2 m → lenV o = n0 + j := fun W o j hj hK => by
      obtain ⟨Ao, co, rfl⟩ := hK.1.sl
      show (rec1 S.us 0 ++ S.wait.take j).length = _
      rw [List.length_append, hn0, List.length_take, hwle]
      omega
    have HLV := Lib.hid hlv
    clear hcut hn0 hwle hlv
    go_wp2_with fail
    go_loopw [5, 7, 8] (fun o l b wr => ∃ (j last : Nat) (bb : Bool) (v : Value), o = v ∧ l = .int .u64 (last : Int) ∧ b = .bool bb ∧ j ≤ wl ∧ (bb = false → j = wl) ∧ lenV o = n0 + j ∧ Hid ((∀ i r, i < j → S.wait[i]? = some r → r.1 ≤ last) ∧ (∀ i r, j ≤ i → S.wait[i]? = some r → last < r.1)) ∧ Hid (Rk w wr v (rec1 S.us 0 ++ S.wait.take j) A S.fin c1 A2 c2 m)) (fun o l b _ => 2 * (n0 + wl - lenV o) + boolV b)
    case atStart =>
      have h0 : Rk w wc u5 (rec1 S.us 0 ++ S.wait.take 0) A S.fin c1 A2 c2 m := by rw [List.take_zero, List.append_nil]; exact HKc.out
      exact ⟨0, 0, true, u5, rfl, rfl, rfl, Nat.zero_le _, fun h => (by cases h), HLV.out _ _ 0 (Nat.zero_le _) h0, Lib.hid ⟨fun i r hi => absurd hi (by omega), fun i r _ hr => HPO.out r (List.mem_of_getElem? hr)⟩, Lib.hid h0⟩
    case round =>
      obtain ⟨j, last, bb, v, rfl, rfl, rfl, hj, hbj, hlo, HL, HK⟩ := hrel
      obtain ⟨wo, hwo⟩ : ∃ wo, wo = wr := ⟨_, rfl⟩
      subst hwo
      cases bb with
      | false =>
        have hjw := hbj rfl
        subst hjw
        have HTK : Hid (S.wait.take j = S.wait) := Lib.hid (by rw [← HWL.out, List.take_length])
        obtain ⟨x0, x1, x2⟩ := HK.out.cells
        clear hbj HL
        go_wp2_with fail
        refine (rsome_any _ ok S hw _ _ m T (HH1.out.below HK.out.2.1) (HH2.out.below HK.out.2.1) 4 0 false).mono ?_
        rintro x w2 ⟨v2, rfl, ho2, hb2⟩
        rw [HP4.out] at ho2
        obtain ⟨Av2, cv2, rfl⟩ := own_slice ho2
        have HK2 := Lib.hid (HK.out.below hb2)
        have HO2 := Lib.hid (own_weaken ho2 HK.out.2.1.size)
        have hsl : (srt S.gn).length = S.gn.length := srt_length _
        obtain ⟨nv2, hnv2⟩ : ∃ nv2, (srt S.gn).length = nv2 := ⟨_, rfl⟩
        have HNG : Hid (S.gn.length = nv2) := Lib.hid (by rw [← hsl]; exact hnv2)
        rw [hnv2] at HO2 ⊢
        have HLEN : Hid ((rec1 S.us 0 ++ S.wait.take j).length ≤ 1000000) := Lib.hid (by rw [List.length_append, HN0.out, List.length_take]; omega)
        clear ho2 hb2 hnv2 x0 x1 x2 hsl
        by_cases h0 : nv2 = 0
        · have d5 : decide (0 < (nv2 : Int)) = false := decide_eq_false (by omega)
          have d5' : decide (0 < nv2) = false := decide_eq_false (by omega)
          have hl0 : Hid (S.gn = []) := Lib.hid (List.eq_nil_of_length_eq_zero (by rw [HNG.out]; exact h0))
          clear h0
          go_wp2_with fail
          go_ret
          have hk := HK2.out
          rw [HTK.out] at hk
          exact ⟨_, rfl, by unfold sRecs; rw [hl0.out, rec1_nil, List.append_nil]; exact hk.1, hk.2.1⟩
        · have d5 : decide (0 < (nv2 : Int)) = true := decide_eq_true (by omega)
          have d5' : decide (0 < nv2) = true := decide_eq_true (by omega)
          have hl0 : Hid (S.gn ≠ []) := Lib.hid (fun hh => h0 (by rw [← HNG.out, hh]; rfl))
          clear h0
          go_wp2_with (first | (at_builtin; refine rapp_any HK2.out HLEN.out HO2.out rfl (.tmp 77) (.tmp 81) rfl rfl rfl ?_; intro v8 w8 hk8; have HK8 := Lib.hid hk8; clear hk8))
          go_ret
          have hk := HK8.out
          rw [HTK.out] at hk
          exact ⟨_, rfl, by unfold sRecs rec1; rw [if_neg hl0.out]; exact hk.1, hk.2.1⟩
      | true =>
        clear hbj
        obtain ⟨x0, x1, x2⟩ := HK.out.cells
        go_wp2_with fail
        go_loopw [8, 9, 10] (fun b nx i wr => ∃ (k : Nat) (q : Option Nat), k ≤ S.fin ∧ Hid (scanW S T last k = q) ∧ b = .bool q.isSome ∧ nx = .int .u64 ((q.getD 0 : Nat) : Int) ∧ i = .int .i64 (k : Int) ∧ wr = wo) (fun _ _ i _ => S.fin - (intOf i).toNat)
        case atStart => exact ⟨0, none, Nat.zero_le _, Lib.hid rfl, rfl, rfl, rfl, rfl⟩
        case round =>
          obtain ⟨k, q, hk, HQ, rfl, rfl, rfl, rfl⟩ := hrel
          by_cases hlt : k < S.fin
          · have d1 : decide ((k : Int) < (S.fin : Int)) = true := decide_eq_true (by omega)
            obtain ⟨ad, rfl, hc⟩ := (HH1.out.below HK.out.2.1).at_ (pwl_at (S := S) (q := k) hlt)
            obtain ⟨ad2, rfl, ht⟩ := (HH2.out.below HK.out.2.1).at_ (ptl_at (m := S.fin) (T := T) (q := k) hlt)
            by_cases hgo : pcode S k = 2 ∧ last < T k
            · have hst := scanW_go hgo.1 hgo.2
              rw [HQ.out] at hst
              have HST := Lib.hid hst
              obtain ⟨hg1, hg2⟩ := hgo
              rw [hg1] at hc
              obtain ⟨tk, htk⟩ : ∃ tk, T k = tk := ⟨_, rfl⟩
              rw [htk] at HST hg2 ht
              have b2 : decide ((last : Int) < (tk : Int)) = true := decide_eq_true (by omega)
              have b2' : decide (last < tk) = true := decide_eq_true hg2
              clear hst htk hg1 HQ hg2
              cases q with
              | none =>
                have HQ2 : Hid (scanW S T last (k + 1) = some tk) := Lib.hid HST.out
                go_wp2_with fail
                exact ⟨⟨k + 1, some tk, by omega, HQ2, rfl, rfl, by go_num, trivial⟩, by simp [intOf]; omega⟩
              | some m0 =>
                by_cases hm : tk < m0
                · have HQ2 : Hid (scanW S T last (k + 1) = some tk) := Lib.hid (by rw [HST.out]; simp [hm])
                  have b3 : decide ((tk : Int) < (m0 : Int)) = true := decide_eq_true (by omega)
                  have b3' : decide (tk < m0) = true := decide_eq_true hm
                  go_wp2_with fail
                  exact ⟨⟨k + 1, some tk, by omega, HQ2, rfl, rfl, by go_num, trivial⟩, by simp [intOf]; omega⟩
                · have HQ2 : Hid (scanW S T last (k + 1) = some m0) := Lib.hid (by rw [HST.out]; simp [hm])
                  have b3 : decide ((tk : Int) < (m0 : Int)) = false := decide_eq_false (by omega)
                  have b3' : decide (tk < m0) = false := decide_eq_false hm
                  go_wp2_with fail
                  exact ⟨⟨k + 1, some m0, by omega, HQ2, rfl, rfl, by go_num, trivial⟩, by simp [intOf]; omega⟩
            · have HQ2 : Hid (scanW S T last (k + 1) = q) := Lib.hid (by rw [scanW_no hgo]; exact HQ.out)
              obtain ⟨cd, hcd⟩ : ∃ cd, pcode S k = cd := ⟨_, rfl⟩
              obtain ⟨tk, htk⟩ : ∃ tk, T k = tk := ⟨_, rfl⟩
              rw [hcd, htk] at hgo
              rw [hcd] at hc
              rw [htk] at ht
              clear hcd htk
              by_cases a1 : cd = 2
              · subst a1
                have b2 : decide ((last : Int) < (tk : Int)) = false := decide_eq_false (by omega)
                have b2' : decide (last < tk) = false := decide_eq_false (by omega)
                clear hgo
                go_wp2_with fail
                exact ⟨⟨k + 1, q, by omega, HQ2, rfl, rfl, by go_num, trivial⟩, by simp [intOf]; omega⟩
              · have b1 : ((cd : Int) == 2) = false := by simp; omega
                clear hgo a1
                go_wp2_with fail
                exact ⟨⟨k + 1, q, by omega, HQ2, rfl, rfl, by go_num, trivial⟩, by simp [intOf]; omega⟩
          · obtain rfl : k = S.fin := by omega
            have d1 : decide ((S.fin : Int) < (S.fin : Int)) = false := decide_eq_false (by omega)
            have hnx := scan_next hw HTW.out HL.out.1 HL.out.2
            rw [HQ.out] at hnx
            have HNX := Lib.hid hnx
            clear hnx
            cases q with
            | none =>
              have hjw : j = wl := by
                have h := HNX.out
                rcases Nat.lt_or_ge j wl with c | c
                · rw [List.getElem?_eq_getElem (by rw [HWL.out]; exact c)] at h
                  cases h
                · omega
              go_wp2_with fail
              exact ⟨⟨j, last, false, _, rfl, rfl, rfl, hj, fun _ => hjw, hlo, HL, HK⟩, by simp [boolV]⟩
            | some nx =>
              obtain ⟨r, hr, hrn⟩ : ∃ r, S.wait[j]? = some r ∧ r.1 = nx := by
                have h := HNX.out
                cases hh : S.wait[j]? with
                | none => rw [hh] at h; cases h
                | some r => rw [hh] at h; exact ⟨r, rfl, by simpa using h.symm⟩
              subst hrn
              have hjl : j < wl := by have := (List.getElem?_eq_some_iff.1 hr).1; rw [HWL.out] at this; exact this
              have hpw := HPW.out r (List.mem_of_getElem? hr)
              have HTK : Hid (S.wait.take (j + 1) = S.wait.take j ++ [(r.1, r.2)]) := Lib.hid (htk_ hr)
              have HL2 : Hid ((∀ i q, i < j + 1 → S.wait[i]? = some q → q.1 ≤ r.1) ∧ (∀ i q, j + 1 ≤ i → S.wait[i]? = some q → r.1 < q.1)) := Lib.hid (by
                obtain ⟨j1, j2⟩ := List.getElem?_eq_some_iff.1 hr
                have hpw := HTW.out.2.1.2.1
                refine ⟨fun i q hi hq => ?_, fun i q hi hq => ?_⟩
                · obtain ⟨i1, i2⟩ := List.getElem?_eq_some_iff.1 hq
                  rcases Nat.lt_or_ge i j with c | c
                  · have := List.pairwise_iff_getElem.1 hpw i j i1 j1 c
                    rw [i2, j2] at this
                    omega
                  · obtain rfl : i = j := by omega
                    rw [hq] at hr
                    injection hr with hr
                    rw [hr]
                    exact Nat.le_refl _
                · obtain ⟨i1, i2⟩ := List.getElem?_eq_some_iff.1 hq
                  have := List.pairwise_iff_getElem.1 hpw j i j1 i1 (by omega)
                  rw [i2, j2] at this
                  exact this)
              have HPR := Lib.hid hpw
              clear hpw hr HNX HL HQ
              obtain ⟨nx, hnx⟩ : ∃ nx, r.1 = nx := ⟨_, rfl⟩
              rw [hnx] at HTK HL2 HPR ⊢
              clear hnx
              go_wp2_with fail
              refine (rsome_any _ ok S hw _ _ m T (HH1.out.below HK.out.2.1) (HH2.out.below HK.out.2.1) 2 nx true).mono ?_
              rintro x w2 ⟨v2, rfl, ho2, hb2⟩
              rw [HPR.out] at ho2
              obtain ⟨Av2, cv2, rfl⟩ := own_slice ho2
              have HK2 := Lib.hid (HK.out.below hb2)
              have HO2 := Lib.hid (own_weaken ho2 HK.out.2.1.size)
              obtain ⟨nv2, hnv2⟩ : ∃ nv2, r.2.length = nv2 := ⟨_, rfl⟩
              rw [hnv2] at HO2 ⊢
              have HLEN : Hid ((rec1 S.us 0 ++ S.wait.take j).length ≤ 1000000) := Lib.hid (by rw [List.length_append, HN0.out, List.length_take]; omega)
              clear ho2 hb2 hnv2 x0 x1 x2
              go_wp2_with (first | (at_builtin; refine rapp_any HK2.out HLEN.out HO2.out rfl (.tmp 63) (.tmp 69) rfl rfl rfl ?_; intro v8 w8 hk8; have HK8 := Lib.hid hk8; clear hk8))
              have hk9 : Rk w w8 v8 (rec1 S.us 0 ++ S.wait.take (j + 1)) A S.fin c1 A2 c2 m := by rw [HTK.out, ← List.append_assoc]; exact HK8.out
              have hlv9 := HLV.out _ _ (j + 1) hjl hk9
              exact ⟨⟨j + 1, nx, true, _, rfl, rfl, rfl, hjl, fun h => (by cases h), hlv9, HL2, Lib.hid hk9⟩, by rw [hlv9, hlo]; simp [boolV]; omega⟩
end Go.Proofs.Ythijobbhpbklmaa

/- SpacePlays: the reference's Right, by hand. -/
namespace Go.Proofs.Ythijobbhpbklmaa
open Go.RowKit
set_option linter.unusedVariables false
set_option linter.unusedSimpArgs false

def RIf (b : Bool) (P : Prop) : Prop := b = false ↔ P
/-- One page: as the reference asks it. -/
def RPg (rs : List FRc) (e k : Nat) (pl : List Nat) (j p : Nat) : Prop := 2 ≤ p ∧ p < e ∧ (∀ q, 0 < j → pl[j - 1]? = some q → q < p) ∧ p ∉ rpAll (rs.take k)
def RRc (rs : List FRc) (e k : Nat) (r : FRc) : Prop := r.2 ≠ [] ∧ (∀ q, 0 < k → rs[k - 1]? = some q → q.1 < r.1) ∧ ∀ j p, r.2[j]? = some p → RPg rs e k r.2 j p
theorem rise_take {pl : List Nat} (h : ∀ j p, pl[j]? = some p → ∀ q, 0 < j → pl[j - 1]? = some q → q < p) : ∀ (j i p q : Nat), i < j → pl[j]? = some p → pl[i]? = some q → q < p := by
  intro j
  induction j with
  | zero => intro i p q hi; omega
  | succ j ih =>
    intro i p q hi hp hq
    have hl := (List.getElem?_eq_some_iff.1 hp).1
    obtain ⟨x, hx⟩ : ∃ x, pl[j]? = some x := ⟨_, List.getElem?_eq_getElem (by omega)⟩
    have h1 := h (j + 1) p hp x (by omega) hx
    rcases Nat.lt_or_ge i j with c | c
    · have := ih i x q c hx hq
      omega
    · obtain rfl : i = j := by omega
      rw [hx] at hq
      injection hq with hq
      omega
theorem right_iff {rs : List FRc} {e : Nat} : (∀ k r, rs[k]? = some r → RRc rs e k r) ↔ SpRight rs e := by
  constructor
  · intro h k r hr
    obtain ⟨a, b, c⟩ := h k r hr
    refine ⟨a, b, fun j p hp => ?_⟩
    obtain ⟨c1, c2, c3, c4⟩ := c j p hp
    refine ⟨c1, c2, c3, fun hm => ?_⟩
    rcases List.mem_append.1 hm with hm | hm
    · exact c4 hm
    · obtain ⟨i, hi⟩ := List.getElem?_of_mem hm
      have hil := (List.getElem?_eq_some_iff.1 hi).1
      rw [List.length_take] at hil
      rw [List.getElem?_take_of_lt (by omega)] at hi
      have := rise_take (fun j p hp => (c j p hp).2.2.1) j i p p (by omega) hp hi
      omega
  · intro h k r hr
    obtain ⟨a, b, c⟩ := h k r hr
    refine ⟨a, b, fun j p hp => ?_⟩
    obtain ⟨c1, c2, c3, c4⟩ := c j p hp
    exact ⟨c1, c2, c3, fun hm => c4 (List.mem_append.2 (.inl hm))⟩
theorem Pgs_append (a b : List Nat) : Pgs (a ++ b) = Pgs a ++ Pgs b := by simp [Pgs]
theorem rpAll_len_take (rs : List FRc) {k : Nat} {r : FRc} (h : rs[k]? = some r) : (rpAll (rs.take k)).length + r.2.length ≤ (rpAll rs).length := by
  have := rpAll_take_le rs h r.2.length
  rwa [List.take_length, List.length_append] at this
set_option maxRecDepth 100000 in
set_option maxHeartbeats 4000000 in
theorem rright_any (w : World) (B : Nat) (A : Option Addr) (n c : Nat) (rs : List FRc) (h : Recs w B A n rs) (hBw : B ≤ w.heap.size) (hok : FROk rs) (hn : n ≤ 1000000) (hpl : ∀ r ∈ rs, r.2.length ≤ 1000000) (htot : (rpAll rs).length ≤ 1000000000) (e : Nat) (he : e < 4294967296) :
    Calls Try.prog 43 #[.slice A n c, .int .i64 (e : Int)] w (SpRightP rs e w) := by
  have hlen := h.1
  obtain ⟨iu, ui0, uz0, uz1, uz2⟩ := info_parts info_u32
  have HTOT := Lib.hid htot
  clear htot
  go_enter Try.func43, Try.ntmps43
  go_wp2_with fail
  go_loopw [5, 6] (fun s i wr => ∃ (k : Nat) (v : Value), k ≤ n ∧ s = v ∧ i = .int .i64 (k : Int) ∧ Hid (wr.ownsRow w.heap.size 61 1 v (rpAll (rs.take k)).length (Pgs (rpAll (rs.take k)))) ∧ Hid (∀ k' r, k' < k → rs[k']? = some r → RRc rs e k' r) ∧ Hid (Below w.heap.size w wr)) (fun _ i _ => n - (intOf i).toNat)
  case atStart => exact ⟨0, _, Nat.zero_le _, rfl, rfl, Lib.hid (World.ownsRow_nil _ _ _ _), Lib.hid (fun _ _ h => absurd h (by omega)), Lib.hid (Below.refl _ _)⟩
  case round =>
    obtain ⟨k, v, hk, rfl, rfl, HS, hpre, HB⟩ := hrel
    by_cases hlt : k < n
    · have d0 : decide ((k : Int) < (n : Int)) = true := decide_eq_true (by omega)
      obtain ⟨r, ad, Ap, np, cp, hr, rfl, hRC0⟩ := h.at_ hlt
      have hRC := hRC0.below (HB.out.mono hBw)
      obtain ⟨hadB, ca, cb, hrd⟩ := hRC
      have cb : wr.cell? ⟨(ad.add (k * 2)).block, (ad.add (k * 2)).off + 1, none⟩ = some (.slice Ap np cp) := cb
      obtain ⟨hr1, hr2⟩ := hok r (List.mem_of_getElem? hr)
      have hnp := hpl r (List.mem_of_getElem? hr)
      have hpl1 : r.2.length = np := by have := hRC0.2.2.2.1; rw [Pgs_length] at this; omega
      have htt := rpAll_len_take rs hr
      have hto := HTOT.out
      rw [hpl1] at hnp htt
      obtain ⟨Sn, hSn⟩ : ∃ Sn, rpAll (rs.take k) = Sn := ⟨_, rfl⟩
      have HSN := Lib.hid hSn
      rw [hSn] at HS htt
      obtain ⟨ns, hns⟩ : ∃ ns, Sn.length = ns := ⟨_, rfl⟩
      rw [hns] at HS htt
      have HNS := Lib.hid hns
      have HR := Lib.hid hr
      have HPL := Lib.hid hpl1
      have HRC0 := Lib.hid hRC0
      obtain ⟨As, cs, rfl⟩ := own_slice HS.out
      have hns9 : ns ≤ 1000000000 := by omega
      clear hr hpl1 hRC0 hSn hns htt hto hrd
      have HK1 : Hid (∀ q', 0 < k → rs[k - 1]? = some q' → ∃ adq, adq = ad.add ((k - 1) * 2) ∧ wr.cell? adq = some (.int .u64 (q'.1 : Int))) := Lib.hid (fun q' hk0 hq' => by
        obtain ⟨q, adq, Aq, nq, cq, hq, e', hRQ⟩ := h.at_ (i := k - 1) (by omega)
        cases e'
        rw [hq] at hq'
        injection hq' with hq'
        subst hq'
        exact ⟨_, rfl, (HB.out.cell (Nat.lt_of_lt_of_le hRQ.1 hBw)).trans hRQ.2.1⟩)
      have HKE : Hid (0 < k → ∃ q', rs[k - 1]? = some q') := Lib.hid (fun _ => ⟨_, List.getElem?_eq_getElem (by omega)⟩)
      go_upto_region 5 with fail
      go_cut [40] (fun c5 wx => ∃ (b : Bool) (d : Nat), c5 = .bool b ∧ wx = wr.drewN d ∧ Hid (RIf b (np ≠ 0 ∧ ∀ q, 0 < k → rs[k - 1]? = some q → q.1 < r.1)))
      case first =>
        by_cases hnp0 : np = 0
        · have e1 : (np == 0) = true := by simp [hnp0]
          have e2 : ((np : Int) == 0) = true := by simp [hnp0]
          have hfin : Hid (RIf true (np ≠ 0 ∧ ∀ q, 0 < k → rs[k - 1]? = some q → q.1 < r.1)) := Lib.hid (by unfold RIf; simp [hnp0])
          clear hnp0
          go_quiet (fail)
          go_wp2_with fail
          go_meet
          case rel => exact ⟨true, _, rfl, rfl, hfin⟩
        have e1 : (np == 0) = false := by simp [hnp0]
        have e2 : ((np : Int) == 0) = false := by simp; omega
        by_cases hk0 : k = 0
        · have f1 : decide (0 < k) = false := decide_eq_false (by omega)
          have f2 : decide ((0 : Int) < (k : Int)) = false := decide_eq_false (by omega)
          have hfin : Hid (RIf false (np ≠ 0 ∧ ∀ q, 0 < k → rs[k - 1]? = some q → q.1 < r.1)) := Lib.hid (iff_of_true rfl ⟨hnp0, fun q hq => absurd hq (by omega)⟩)
          clear hk0 hnp0
          go_quiet (fail)
          go_wp2_with fail
          go_meet
          case rel => exact ⟨false, _, rfl, rfl, hfin⟩
        · have f1 : decide (0 < k) = true := decide_eq_true (by omega)
          have f2 : decide ((0 : Int) < (k : Int)) = true := decide_eq_true (by omega)
          obtain ⟨q, hq⟩ := HKE.out (by omega)
          obtain ⟨adq, hadq, a0⟩ := HK1.out q (by omega) hq
          obtain ⟨k1, hk1⟩ : ∃ k1, k1 + 1 = k := ⟨k - 1, by omega⟩
          have hk1i : (k : Int) - 1 = (k1 : Int) := by omega
          have hk1w : IntKind.i64.wrap ((k : Int) - 1) = (k1 : Int) := by rw [hk1i]; exact IntWalk.i64_in _ (by omega)
          have hk1l : k1 < n := by omega
          have hkk : k - 1 = k1 := by omega
          rw [hkk] at hadq
          subst hadq
          have HQ := Lib.hid hq
          have HNP0 := Lib.hid hnp0
          have HK0 := Lib.hid hk0
          clear hk1 hkk hq hnp0 hk0
          by_cases c0 : r.1 ≤ q.1
          · have e3 : decide (r.1 ≤ q.1) = true := decide_eq_true c0
            have hfin : Hid (RIf true (np ≠ 0 ∧ ∀ q, 0 < k → rs[k - 1]? = some q → q.1 < r.1)) := Lib.hid ⟨fun h => by (cases h), fun hh => by have := hh.2 q (by have := HK0.out; omega) HQ.out; omega⟩
            clear c0
            go_quiet (fail)
            go_wp2_with fail
            go_meet
            case rel => exact ⟨true, _, rfl, rfl, hfin⟩
          · have e3 : decide (r.1 ≤ q.1) = false := decide_eq_false c0
            have hfin : Hid (RIf false (np ≠ 0 ∧ ∀ q, 0 < k → rs[k - 1]? = some q → q.1 < r.1)) := Lib.hid (iff_of_true rfl ⟨HNP0.out, fun q' _ hq' => by
              rw [HQ.out] at hq'
              injection hq' with hq'
              subst hq'
              omega⟩)
            clear c0
            go_quiet (fail)
            go_wp2_with fail
            go_meet
            case rel => exact ⟨false, _, rfl, rfl, hfin⟩
      case rest =>
        obtain ⟨b, d, rfl, rfl, HBB⟩ := hcut
        cases b with
        | true =>
          have hno : Hid (¬ SpRight rs e) := Lib.hid fun hh => by
            obtain ⟨q1, q2, q3⟩ := right_iff.2 hh k r HR.out
            have := HBB.out.2 ⟨fun h0 => q1 (List.eq_nil_of_length_eq_zero (by rw [HPL.out]; exact h0)), q2⟩
            cases this
          go_wp2_with fail
          go_ret
          exact SpRightP.no hno.out (below_drewN HB.out _)
        | false =>
          obtain ⟨hnp0, hrise⟩ := HBB.out.1 rfl
          have HRI := Lib.hid hrise
          have HB2 : Hid (Below w.heap.size w (wr.drewN d)) := Lib.hid (below_drewN HB.out d)
          have HS2 : Hid ((wr.drewN d).ownsRow w.heap.size 61 1 (.slice As ns cs) ns (Pgs Sn)) := HS
          clear ca cb hrise HBB HS HB HK1 HKE
          obtain ⟨W2, hW2⟩ : ∃ W2, wr.drewN d = W2 := ⟨_, rfl⟩
          rw [hW2] at HB2 HS2 ⊢
          clear hW2
          have hRC := HRC0.out.below (HB2.out.mono hBw)
          obtain ⟨hadB, ca, cb, hrd⟩ := hRC
          have cb : W2.cell? ⟨(ad.add (k * 2)).block, (ad.add (k * 2)).off + 1, none⟩ = some (.slice Ap np cp) := cb
          have HPG : Hid (∀ (j p : Nat), r.2[j]? = some p → ∃ adp : Addr, Ap = some adp ∧ W2.cell? (adp.add j) = some (.int .u32 (p : Int))) := Lib.hid (fun j p hp => by
            have hj := (List.getElem?_eq_some_iff.1 hp).1
            obtain ⟨adp, u, e1, e2, e3, e4⟩ := hrd.at_ (k := j) (by rw [← HPL.out]; exact hj)
            simp only [Pgs, List.getElem?_map, hp, Option.map_some] at e3
            injection e3 with e3
            subst e3
            exact ⟨adp, e1, e4⟩)
          have HRD := Lib.hid hrd
          have HSC : Hid (∀ (m x : Nat), Sn[m]? = some x → ∃ a : Addr, As = some a ∧ W2.cell? (a.add m) = some (.int .u32 (x : Int))) := Lib.hid (fun m x hx => by
            have hm := (List.getElem?_eq_some_iff.1 hx).1
            obtain ⟨a, u, e1, e2, e3, e4⟩ := (Reads.of_own HS2.out).at_ (k := m) (by rw [← HNS.out]; exact hm)
            simp only [Pgs, List.getElem?_map, hx, Option.map_some] at e3
            injection e3 with e3
            subst e3
            exact ⟨a, e1, e4⟩)
          clear hrd hadB
          go_wp2_with fail
          go_loopw [7] (fun i wx => ∃ j : Nat, j ≤ np ∧ i = .int .i64 (j : Int) ∧ wx = W2 ∧ Hid (∀ j' p, j' < j → r.2[j']? = some p → RPg rs e k r.2 j' p)) (fun i _ => np - (intOf i).toNat)
          case atStart => exact ⟨0, Nat.zero_le _, rfl, rfl, Lib.hid (fun _ _ h => absurd h (by omega))⟩
          case round =>
            obtain ⟨j, hj, rfl, rfl, HPJ⟩ := hrel
            by_cases hjl : j < np
            · have d1 : decide ((j : Int) < (np : Int)) = true := decide_eq_true (by omega)
              obtain ⟨p, hp⟩ : ∃ p, r.2[j]? = some p := ⟨_, List.getElem?_eq_getElem (by rw [HPL.out]; exact hjl)⟩
              obtain ⟨adp, rfl, hcp⟩ := HPG.out j p hp
              have HP := Lib.hid hp
              have hp32 : p < 4294967296 := hr2 p (List.mem_of_getElem? hp)
              have HQE : Hid (0 < j → ∃ q, r.2[j - 1]? = some q) := Lib.hid (fun _ => ⟨_, List.getElem?_eq_getElem (by rw [HPL.out]; omega)⟩)
              clear hp
              go_upto_region 11 with fail
              go_cut [83] (fun c5 wx => ∃ (b : Bool), c5 = .bool b ∧ wx = wr ∧ Hid (RIf b (2 ≤ p ∧ p < e ∧ ∀ q, 0 < j → r.2[j - 1]? = some q → q < p)))
              case first =>
                by_cases c1 : p < 2
                · have hfin : Hid (RIf true (2 ≤ p ∧ p < e ∧ ∀ q, 0 < j → r.2[j - 1]? = some q → q < p)) := Lib.hid ⟨fun h => by (cases h), fun h => by omega⟩
                  have e3 : decide (p < 2) = true := decide_eq_true c1
                  have e3' : decide ((p : Int) < 2) = true := decide_eq_true (by omega)
                  go_wp2_with fail
                  go_meet
                  case rel => exact ⟨true, rfl, rfl, hfin⟩
                have e3 : decide (p < 2) = false := decide_eq_false c1
                have e3' : decide ((p : Int) < 2) = false := decide_eq_false (by omega)
                by_cases c2 : e ≤ p
                · have hfin : Hid (RIf true (2 ≤ p ∧ p < e ∧ ∀ q, 0 < j → r.2[j - 1]? = some q → q < p)) := Lib.hid ⟨fun h => by (cases h), fun h => by omega⟩
                  have e4 : decide (e ≤ p) = true := decide_eq_true c2
                  have e4' : decide ((e : Int) ≤ (p : Int)) = true := decide_eq_true (by omega)
                  go_wp2_with fail
                  go_meet
                  case rel => exact ⟨true, rfl, rfl, hfin⟩
                have e4 : decide (e ≤ p) = false := decide_eq_false c2
                have e4' : decide ((e : Int) ≤ (p : Int)) = false := decide_eq_false (by omega)
                by_cases hj0 : 0 < j
                · have g1 : decide (0 < j) = true := decide_eq_true hj0
                  have g2 : decide ((0 : Int) < (j : Int)) = true := decide_eq_true (by omega)
                  obtain ⟨q, hq⟩ := HQE.out hj0
                  have HQ := Lib.hid hq
                  obtain ⟨j1, hj1⟩ : ∃ j1, j1 + 1 = j := ⟨j - 1, by omega⟩
                  have hjj : j - 1 = j1 := by omega
                  rw [hjj] at hq
                  obtain ⟨adq, e', hcq⟩ := HPG.out j1 q hq
                  cases e'
                  have hj1i : (j : Int) - 1 = (j1 : Int) := by omega
                  have hj1l : j1 < np := by omega
                  have HJ0 := Lib.hid hj0
                  clear hq hj1 hjj hj0
                  by_cases c3 : p ≤ q
                  · have hfin : Hid (RIf true (2 ≤ p ∧ p < e ∧ ∀ q, 0 < j → r.2[j - 1]? = some q → q < p)) := Lib.hid ⟨fun h => by (cases h), fun h => by have := h.2.2 q HJ0.out HQ.out; omega⟩
                    have e5 : decide (p ≤ q) = true := decide_eq_true c3
                    have e5' : decide ((p : Int) ≤ (q : Int)) = true := decide_eq_true (by omega)
                    go_wp2_with fail
                    go_meet
                    case rel => exact ⟨true, rfl, rfl, hfin⟩
                  · have hfin : Hid (RIf false (2 ≤ p ∧ p < e ∧ ∀ q, 0 < j → r.2[j - 1]? = some q → q < p)) := Lib.hid (iff_of_true rfl ⟨by omega, by omega, fun q' _ hq' => by
                      rw [HQ.out] at hq'
                      injection hq' with hq'
                      omega⟩)
                    have e5 : decide (p ≤ q) = false := decide_eq_false c3
                    have e5' : decide ((p : Int) ≤ (q : Int)) = false := decide_eq_false (by omega)
                    go_wp2_with fail
                    go_meet
                    case rel => exact ⟨false, rfl, rfl, hfin⟩
                · have g1 : decide (0 < j) = false := decide_eq_false hj0
                  have g2 : decide ((0 : Int) < (j : Int)) = false := decide_eq_false (by omega)
                  have hfin : Hid (RIf false (2 ≤ p ∧ p < e ∧ ∀ q, 0 < j → r.2[j - 1]? = some q → q < p)) := Lib.hid (iff_of_true rfl ⟨by omega, by omega, fun q' h => absurd h hj0⟩)
                  clear hj0
                  go_wp2_with fail
                  go_meet
                  case rel => exact ⟨false, rfl, rfl, hfin⟩
              case rest =>
                obtain ⟨b, rfl, rfl, HBB⟩ := hcut
                cases b with
                | true =>
                  have hno : Hid (¬ SpRight rs e) := Lib.hid fun hh => by
                    obtain ⟨q1, q2, q3⟩ := right_iff.2 hh k r HR.out
                    obtain ⟨q4, q5, q6, q7⟩ := q3 j p HP.out
                    have := HBB.out.2 ⟨q4, q5, q6⟩
                    cases this
                  go_wp2_with fail
                  go_ret
                  exact SpRightP.no hno.out HB2.out
                | false =>
                  have HGO := Lib.hid (HBB.out.1 rfl)
                  clear HBB
                  go_wp2_with fail
                  go_loopw [9] (fun i wx => ∃ m : Nat, m ≤ ns ∧ i = .int .i64 (m : Int) ∧ wx = wc ∧ Hid (∀ m', m' < m → Sn[m']? ≠ some p)) (fun i _ => ns - (intOf i).toNat)
                  case atStart => exact ⟨0, Nat.zero_le _, rfl, rfl, Lib.hid (fun _ h => absurd h (by omega))⟩
                  case round =>
                    obtain ⟨m, hm, rfl, rfl, HM⟩ := hrel
                    by_cases hml : m < ns
                    · have d2 : decide ((m : Int) < (ns : Int)) = true := decide_eq_true (by omega)
                      obtain ⟨x, hx⟩ : ∃ x, Sn[m]? = some x := ⟨_, List.getElem?_eq_getElem (by rw [HNS.out]; exact hml)⟩
                      obtain ⟨asd, rfl, hcx⟩ := HSC.out m x hx
                      by_cases hxp : x = p
                      · subst hxp
                        have hno : Hid (¬ SpRight rs e) := Lib.hid fun hh => by
                          obtain ⟨q1, q2, q3⟩ := right_iff.2 hh k r HR.out
                          obtain ⟨q4, q5, q6, q7⟩ := q3 j x HP.out
                          exact q7 (by rw [HSN.out]; exact List.mem_of_getElem? hx)
                        clear hx
                        go_wp2_with fail
                        go_ret
                        exact SpRightP.no hno.out HB2.out
                      · have HM2 : Hid (∀ m', m' < m + 1 → Sn[m']? ≠ some p) := Lib.hid (fun m' hm' => by
                          rcases Nat.lt_or_ge m' m with c | c
                          · exact HM.out m' c
                          · obtain rfl : m' = m := by omega
                            rw [hx]
                            exact fun h => hxp (by injection h))
                        have b1 : ((x : Int) == (p : Int)) = false := by rw [beq_eq_false_iff_ne]; omega
                        clear hx hxp HM
                        go_wp2_with fail
                        exact ⟨⟨m + 1, by omega, by go_num, trivial, HM2⟩, by simp [intOf]; omega⟩
                    · obtain rfl : m = ns := by omega
                      have d2 : decide ((m : Int) < (m : Int)) = false := decide_eq_false (by omega)
                      have HPJ2 : Hid (∀ j' p', j' < j + 1 → r.2[j']? = some p' → RPg rs e k r.2 j' p') := Lib.hid (fun j' p' hj' hp' => by
                        rcases Nat.lt_or_ge j' j with c | c
                        · exact HPJ.out j' p' c hp'
                        · obtain rfl : j' = j := by omega
                          rw [HP.out] at hp'
                          injection hp' with hp'
                          subst hp'
                          obtain ⟨g1, g2, g3⟩ := HGO.out
                          refine ⟨g1, g2, g3, fun hmem => ?_⟩
                          rw [HSN.out] at hmem
                          obtain ⟨i, hi⟩ := List.getElem?_of_mem hmem
                          exact HM.out i (by have := (List.getElem?_eq_some_iff.1 hi).1; rw [HNS.out] at this; exact this) hi)
                      clear HPJ HM HGO
                      go_wp2_with fail
                      exact ⟨⟨j + 1, by omega, by go_num, trivial, HPJ2⟩, by simp [intOf]; omega⟩
            · obtain rfl : j = np := by omega
              have d1 : decide ((j : Int) < (j : Int)) = false := decide_eq_false (by omega)
              have hsz := HB2.out.size
              have HPRE2 : Hid (∀ k' r', k' < k + 1 → rs[k']? = some r' → RRc rs e k' r') := Lib.hid (fun k' r' hk' hr' => by
                rcases Nat.lt_or_ge k' k with c | c
                · exact hpre.out k' r' c hr'
                · obtain rfl : k' = k := by omega
                  rw [HR.out] at hr'
                  injection hr' with hr'
                  subst hr'
                  exact ⟨fun h0 => hnp0 (by rw [← HPL.out, h0]; rfl), HRI.out, fun j' p hp => HPJ.out j' p (by have := (List.getElem?_eq_some_iff.1 hp).1; rw [HPL.out] at this; exact this) hp⟩)
              have HSTEP : Hid (∀ (v8 : Value) (w8 : World), w8.ownsRow w.heap.size 61 1 v8 (ns + j) (Pgs Sn ++ Pgs r.2) → wr.grownBy w8 (Value.slice As ns cs).ownBlock → Hid (w8.ownsRow w.heap.size 61 1 v8 (rpAll (rs.take (k + 1))).length (Pgs (rpAll (rs.take (k + 1))))) ∧ Hid (Below w.heap.size w w8)) := Lib.hid (fun v8 w8 ho8 hg8 => by
                refine ⟨Lib.hid ?_, Lib.hid (HB2.out.grown hg8 HB2.out.size (fun q hq => own_base HS2.out q hq))⟩
                rw [rtake_succ HR.out, rpAll_snoc, HSN.out, List.length_append, HNS.out, HPL.out, Pgs_append]
                exact ho8)
              clear hpre HPJ
              go_wp2_with (first | (at_builtin; refine wpList_append_any _ rfl (.tmp 96) (.tmp 101) _ rfl w.heap.size 61 iu _ 1 4 Try.underlying82 ui0 uz0 uz1 uz2 rfl (by omega) _ ns _ rfl HS2.out B Ap j cp _ rfl HRD.out (Pgs_one _) (by simp only [maxLen]; omega) (by omega) hsz ?_; intro v8 w8 hown8 hg8 hat8; obtain ⟨q1, q2⟩ := HSTEP.out v8 w8 hown8 hg8; clear hown8 hg8 hat8))
              exact ⟨⟨k + 1, _, by omega, rfl, by go_num, q1, HPRE2, q2⟩, by simp [intOf]; omega⟩
    · obtain rfl : k = n := by omega
      have d0 : decide ((k : Int) < (k : Int)) = false := decide_eq_false (by omega)
      have hall : Hid (SpRight rs e) := Lib.hid (right_iff.1 (fun k' r hr => hpre.out k' r (by rw [← hlen]; exact (List.getElem?_eq_some_iff.1 hr).1) hr))
      clear hpre
      go_wp2_with fail
      go_ret
      exact ⟨true, rfl, iff_of_true rfl hall.out, HB.out⟩
end Go.Proofs.Ythijobbhpbklmaa
