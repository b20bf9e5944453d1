/- Layer 3: what Crash needs: copy into a page, the crash step by step. -/
import Derived.Test.YthijobbhpbklmaaSync
namespace Go.Proofs.Ythijobbhpbklmaa
open Go.RowKit
set_option linter.unusedVariables false
set_option linter.unusedSimpArgs false

/-- s[:m] of elements of any size. -/
theorem cut_hN {P : Program} (t e : TypeId) (kh : IntKind) {i : TypeInfo} (size : Nat) (ht : P.underlying t = some (.slice e)) (hi : P.info? e = some i) (hsz : i.size = size) (A : Option Addr) (n c m : Nat) (hm : m ≤ n) (hc : n ≤ c) :
    ∃ A' : Option Addr, (∀ W : World, (Instr.slice t (.slice A n c) none (some (.int kh (m : Int))) none).run P W = .ok (.slice A' m c) W) ∧
      ∀ (w : World) (B : Nat) (xs : List Value), Reads w B size A n xs → Reads w B size A' m (xs.take (m * size)) := by
  refine ⟨if c = 0 then A else A.map (·.add (0 * size)), fun W => ?_, fun w B l h => ⟨?_, fun hn => ?_⟩⟩
  · have hel : P.elem t = e := by simp [Program.elem, ht]
    have hu : P.underlying t = some (.slice (P.elem t)) := by rw [hel]; exact ht
    rw [run_slice_h W t A n c hu kh (m : Int) (Int.natCast_nonneg _) (by omega), hel]
    simp [sizeOf, typeInfo, hi, hsz, sliced, Result.andThen]
  · have := h.1
    have h2 : m * size ≤ n * size := Nat.mul_le_mul_right _ hm
    rw [List.length_take]
    omega
  · obtain ⟨ad, rfl, hb, hcell⟩ := h.2 (by omega)
    rw [if_neg (by omega)]
    refine ⟨ad.add (0 * size), rfl, by rw [block_of_add]; exact hb, fun j u hu => ?_⟩
    rw [add_of_add, Nat.zero_mul, Nat.zero_add]
    refine hcell j u ?_
    rw [List.getElem?_take] at hu
    split at hu
    · exact hu
    · cases hu
/-- b[l:h] of a block's first bytes. -/
theorem run_slice_own {P : Program} (t e : TypeId) {i : TypeInfo} (ht : P.underlying t = some (.slice e)) (hi : P.info? e = some i) (hsz : i.size = 1) (g n c l h : Nat) (hl : l < h) (hm : h ≤ n) (hc : n ≤ c) (W : World) :
    (Instr.slice t (.slice (some ⟨g, 0, none⟩) n c) (some (.int .i64 (l : Int))) (some (.int .i64 (h : Int))) none).run P W = .ok (.slice (some ⟨g, l, none⟩) (h - l) (c - l)) W := by
  have hel : P.elem t = e := by simp [Program.elem, ht]
  have hu : P.underlying t = some (.slice (P.elem t)) := by rw [hel]; exact ht
  rw [run_slice_lh W t (some ⟨g, 0, none⟩) n c hu .i64 .i64 (l : Int) (h : Int) (Int.natCast_nonneg _) (by omega) (by omega), hel]
  have e1 : ¬ c = l := by omega
  have ea : (⟨g, 0, none⟩ : Addr).add l = ⟨g, l, none⟩ := by rw [add_plain, Nat.zero_add]
  simp [sizeOf, typeInfo, hi, hsz, sliced, Result.andThen, e1, ea]

/-- The first cells of block g are the bytes l. -/
def CB (w : World) (g : Nat) (l : List UInt8) : Prop := ∃ cur : Array Value, w.heap[g]? = some (.cells cur 5 (0, 0)) ∧ cur.toList.take l.length = bv l
theorem CB.of_own {w : World} {base n : Nat} {v : Value} {l : List UInt8} (h : w.ownsRow base 5 1 v n (bv l)) (hn : 0 < n) : ∃ g c, v = .slice (some ⟨g, 0, none⟩) n c ∧ CB w g l ∧ n ≤ c ∧ base ≤ g := by
  obtain ⟨h1, h2⟩ := h
  have hl : l.length = n := by simpa [bv_length] using h1
  rcases h2 with ⟨_, h0⟩ | ⟨g, cap, cur, hv, hg, hh, hnc, _, _, htk⟩
  · omega
  · exact ⟨g, cap, hv, ⟨cur, hh, by rw [hl]; simpa using htk⟩, hnc, hg⟩
theorem CB.pg {w : World} {g : Nat} {l : List UInt8} (h : CB w g l) {ok : Nat → Prop} (hok : ok g) {n c : Nat} (hn : l.length = n) (hc : n ≤ c) : PgAt w ok (.slice (some ⟨g, 0, none⟩) n c) l := by
  subst hn
  obtain ⟨cur, hh, htk⟩ := h
  refine ⟨g, 0, c, cur, (0, 0), rfl, hc, hok, hh, fun i b hb => ?_⟩
  have hi := (List.getElem?_eq_some_iff.1 hb).1
  have e : (bv l)[i]? = some (.int .u8 (b.toNat : Int)) := by simp [bv, hb]
  rw [← htk, List.getElem?_take, if_pos hi] at e
  rw [Nat.zero_add]
  simpa using e
theorem CB.lt {w : World} {g : Nat} {l : List UInt8} (h : CB w g l) : g < w.heap.size := by
  obtain ⟨cur, hh, _⟩ := h
  exact blk_lt hh
theorem wp_copy_cb {P : Program} {w : World} {o : Oper} {a : Act} {K : Act → World → Prop} {Q : Exit → Act → World → Prop} (d s : Operand) (dT sT : TypeId)
    (ho : o.op = .call { callee := .builtin .copy, args := #[d, s], argTypes := #[dT, sT] }) (hu : P.underlying dT = some (.slice 5)) (hsz : (P.info? 5).map (·.size) = some 1)
    (g off dLen dCap : Nat) (sp : Option Addr) (sLen sCap : Nat) (hd : a.eval d = .slice (some ⟨g, off, none⟩) dLen dCap) (hs : a.eval s = .slice sp sLen sCap)
    (l m : List UInt8) (hg : CB w g l) (B : Nat) (hm : Sl w B sp sLen sCap m) (N : Nat) (hN : min sLen dLen = N) (hpos : 0 < N) (hfit : off + N ≤ l.length)
    (h : ∀ w', CB w' g (splice l off (m.take N)) → At g w w' → K (a.put o.dst (goInt N)) w') : o.wp P a w K Q := by
  obtain ⟨cur, hh, htk⟩ := hg
  have hml := hm.len
  obtain ⟨ad, rfl, _, hsrc⟩ := hm.reads.2 (by omega)
  have hcl : (bv (m.take N)).length = N := by rw [bv_length, List.length_take]; omega
  have hcs : l.length ≤ cur.size := by
    have := congrArg List.length htk
    rw [List.length_take, bv_length] at this
    simp at this
    omega
  have hrun := run_copy_row (P := P) w dT sT o.type 5 g off dLen dCap ad sLen sCap cur 5 (bv (m.take N)) hu hsz hh (by rw [hcl]; exact hN.symm) (fun j v hv => by
    refine hsrc j v ?_
    simp only [bv, List.map_take, List.getElem?_take] at hv
    split at hv
    · exact hv
    · cases hv) (by rw [hcl]; omega) (bv_one _)
  rw [hcl] at hrun
  obtain ⟨W, hW⟩ : ∃ W, w.setRow g (cur.toList.take off ++ bv (m.take N) ++ cur.toList.drop (off + N)).toArray = W := ⟨_, rfl⟩
  rw [hW] at hrun
  unfold Oper.wp
  simp [execOp, ho, resolve, invoke, builtin, hd, hs, hrun, Result.andThen]
  refine h W ?_ (by rw [← hW]; exact ⟨rfl, rfl, rfl, by simp [World.setRow], fun k hk hne => setRow_other w g k _ (fun e => hne (by rw [e]))⟩)
  rw [← hW]
  refine ⟨_, setRow_heap w g _ _ _ _ hh, ?_⟩
  show (cur.toList.take off ++ bv (m.take N) ++ cur.toList.drop (off + N)).take _ = _
  have hsl : (splice l off (m.take N)).length = l.length := by
    have : (m.take N).length = N := by rw [List.length_take]; omega
    simp [splice, this]
    omega
  rw [hsl]
  have hcur : cur.toList = bv l ++ cur.toList.drop l.length := by rw [← htk, List.take_append_drop]
  rw [hcur]
  have hbl : (bv l).length = l.length := bv_length l
  generalize cur.toList.drop l.length = r
  rw [show (bv l ++ r).take off = (bv l).take off from List.take_append_of_le_length (by omega), show (bv l ++ r).drop (off + N) = (bv l).drop (off + N) ++ r from List.drop_append_of_le_length (by omega)]
  have e : (bv (splice l off (m.take N))) = (bv l).take off ++ (bv (m.take N) ++ (bv l).drop (off + N)) := by
    have : (m.take N).length = N := by rw [List.length_take]; omega
    simp [splice, bv, List.map_take, List.map_drop, this]
  rw [e]
  have hlen : ((bv l).take off ++ (bv (m.take N) ++ (bv l).drop (off + N))).length = l.length := by
    rw [List.length_append, List.length_append, List.length_take, List.length_drop, hcl, hbl]; omega
  have e2 : (bv l).take off ++ bv (m.take N) ++ ((bv l).drop (off + N) ++ r) = ((bv l).take off ++ (bv (m.take N) ++ (bv l).drop (off + N))) ++ r := by simp [List.append_assoc]
  rw [e2]
  exact List.take_left' hlen

theorem t32 (S T : Nat) (h : S = T * 128) (h2 : S ≤ 4096) : T ≤ 32 := by omega
theorem t_div (S T : Nat) (h : S = T * 128) (h2 : S ≤ 4096) : wrap64 ((S : Int) / 128) = (T : Int) := by
  rw [h, show ((T * 128 : Nat) : Int) / 128 = (T : Int) by omega]
  exact IntWalk.wrap64_in _ (by omega)
theorem pick_bit (pk : UInt8) (s : Nat) : (bits BinOp.and IntKind.u8 ((pk.toNat : Int) / 2 ^ (s % 8)) 1 == 1) = pickB pk (s * 128) := by
  have e : ((pk.toNat : Int) / 2 ^ (s % 8)) = ((pk.toNat >>> (s % 8) : Nat) : Int) := by
    rw [Nat.shiftRight_eq_div_pow]
    simp
  have hlt : pk.toNat >>> (s % 8) < 256 := Nat.lt_of_le_of_lt (Nat.shiftRight_le _ _) pk.toNat_lt
  have h2 : bits BinOp.and IntKind.u8 ((pk.toNat >>> (s % 8) : Nat) : Int) 1 = ((pk.toNat >>> (s % 8) &&& 1 : Nat) : Int) := u8_and_nat _ 1 hlt (by omega)
  rw [e, h2, Nat.and_one_is_mod]
  unfold pickB
  rw [Nat.mul_div_cancel _ (by omega)]
  rcases Nat.mod_two_eq_zero_or_one (pk.toNat >>> (s % 8)) with h | h <;> rw [h] <;> rfl
theorem crashed_nil (g : List (List UInt8)) (ps : List UInt8) : crashed g [] ps = g := by cases ps <;> rfl
theorem crashed_take_succ {l : List (Nat × List UInt8)} : ∀ {ps : List UInt8} {g : List (List UInt8)} {k : Nat} {x : Nat × List UInt8} {q : UInt8}, l[k]? = some x → ps[k]? = some q →
    crashed g (l.take (k + 1)) ps = (crashed g (l.take k) ps).set x.1 (mixed q ((crashed g (l.take k) ps).getD x.1 []) x.2) := by
  induction l with
  | nil => intro ps g k x q h; simp at h
  | cons y l ih =>
    intro ps g k x q hx hq
    cases ps with
    | nil => simp at hq
    | cons r ps =>
      cases k with
      | zero =>
        simp at hx hq
        subst hx hq
        show crashed (g.set y.1 _) [] ps = _
        rw [crashed_nil]
        rfl
      | succ k => exact ih (by simpa using hx) (by simpa using hq)
theorem crashed_take_all {l : List (Nat × List UInt8)} : ∀ {ps : List UInt8} {g : List (List UInt8)}, crashed g (l.take (min l.length ps.length)) ps = crashed g l ps := by
  induction l with
  | nil => intro ps g; simp
  | cons y l ih =>
    intro ps g
    cases ps with
    | nil => rfl
    | cons r ps =>
      rw [List.length_cons, List.length_cons, Nat.add_min_add_right, List.take_succ_cons]
      exact ih
/-- So many writes are mixed in. -/
def crashTo (D : Dk) (ps : List UInt8) (k : Nat) : Dk := { D with good := crashed D.good (D.loose.take k) ps }
theorem crashTo_zero (D : Dk) (ps : List UInt8) : crashTo D ps 0 = D := by unfold crashTo; rw [List.take_zero, crashed_nil]
theorem crashTo_succ (D : Dk) (ps : List UInt8) {k : Nat} {x : Nat × List UInt8} {q : UInt8} (h : D.loose[k]? = some x) (hq : ps[k]? = some q) : ({ crashTo D ps k with good := (crashTo D ps k).good.set x.1 (mixed q ((crashTo D ps k).good.getD x.1 []) x.2) } : Dk) = crashTo D ps (k + 1) := by
  unfold crashTo
  rw [crashed_take_succ h hq]
theorem DAt.crashEnd {w : World} {base p : Nat} {ok : Nat → Prop} {D : Dk} {G L Z : Value} {dn : Int} (h : DAt w base ok p D G L dn Z) : DAt ((w.setCell ⟨p, 3, none⟩ (.slice none 0 0)).setCell ⟨p, 4, none⟩ (.int .i64 (-1))) base ok p { D with loose := [], fails := -1 } G (.slice none 0 0) dn Z := by
  have h1 := h.shut
  exact h1.at_ ((At.refl p _).setCell 4 _) (h1.blk.set4 (-1)) rfl rfl rfl ⟨h.wf.s1, h.wf.s2, h.wf.s3, h.wf.l1, h.wf.l2, h.wf.g1, h.wf.g2, (by intro x hx; cases hx), by show (-1 : Int) ≤ -1; omega, by show (-1 : Int) ≤ _; omega⟩ h.cb
end Go.Proofs.Ythijobbhpbklmaa
