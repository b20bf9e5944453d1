/- CrashA; Crash; DFull; DAwake; DNil -/
import Derived.Test.YthijobbhpbklmaaDkPl2
set_option linter.unusedVariables false
set_option linter.unusedSimpArgs false
open List (setIfInBounds_toArray set_cons_zero set_cons_succ)
namespace Go.Proofs.Ythijobbhpbklmaa
open Go.RowKit
def CB (w : World) (g : Nat) (l : List UInt8) : Prop := ∃ cur : Array Value, w.heap[g]? = some (.cells cur 5 (0, 0)) ∧ cur.toList.take l.length = bv l
theorem CB.of_own {w : World} {base n : Nat} {v : Value} {l : List UInt8} (h : w.ownsRow base 5 1 v n (bv l)) (hn : 0 < n) : ∃ g c, v = .slice (some ⟨g, 0, none⟩) n c ∧ CB w g l ∧ n ≤ c ∧ base ≤ g := by
  obtain ⟨h1, h2⟩ := h
  have hl : l.length = n := by simpa [bv_length] using h1
  rcases h2 with ⟨_, h0⟩ | ⟨g, cap, cur, hv, hg, hh, hnc, _, _, htk⟩
  · omega
  · exact ⟨g, cap, hv, ⟨cur, hh, by rw [hl]; simpa using htk⟩, hnc, hg⟩
theorem CB.pg {w : World} {g : Nat} {l : List UInt8} (h : CB w g l) {ok : Nat → Prop} (hok : ok g) {n c : Nat} (hn : l.length = n) (hc : n ≤ c) : PgAt w ok (.slice (some ⟨g, 0, none⟩) n c) l := by
  subst hn
  obtain ⟨cur, hh, htk⟩ := h
  refine ⟨g, 0, c, cur, (0, 0), rfl, hc, hok, hh, fun i b hb => ?_⟩
  have hi := (List.getElem?_eq_some_iff.1 hb).1
  have e : (bv l)[i]? = some (.int .u8 (b.toNat : Int)) := by simp [bv, hb]
  rw [← htk, List.getElem?_take, if_pos hi] at e
  rw [Nat.zero_add]
  simpa using e
theorem CB.lt {w : World} {g : Nat} {l : List UInt8} (h : CB w g l) : g < w.heap.size := by
  obtain ⟨cur, hh, _⟩ := h
  exact blk_lt hh
theorem wp_copy_cb {P : Program} {w : World} {o : Oper} {a : Act} {K : Act → World → Prop} {Q : Exit → Act → World → Prop} (d s : Operand) (dT sT : TypeId)
    (ho : o.op = .call { callee := .builtin .copy, args := #[d, s], argTypes := #[dT, sT] }) (hu : P.underlying dT = some (.slice 5)) (hsz : (P.info? 5).map (·.size) = some 1)
    (g off dLen dCap : Nat) (sp : Option Addr) (sLen sCap : Nat) (hd : a.eval d = .slice (some ⟨g, off, none⟩) dLen dCap) (hs : a.eval s = .slice sp sLen sCap)
    (l m : List UInt8) (hg : CB w g l) (B : Nat) (hm : Sl w B sp sLen sCap m) (N : Nat) (hN : min sLen dLen = N) (hpos : 0 < N) (hfit : off + N ≤ l.length)
    (h : ∀ w', CB w' g (splice l off (m.take N)) → At g w w' → K (a.put o.dst (goInt N)) w') : o.wp P a w K Q := by
  obtain ⟨cur, hh, htk⟩ := hg
  have hml := hm.len
  obtain ⟨ad, rfl, _, hsrc⟩ := hm.reads.2 (by omega)
  have hcl : (bv (m.take N)).length = N := by rw [bv_length, List.length_take]; omega
  have hcs : l.length ≤ cur.size := by
    have := congrArg List.length htk
    rw [List.length_take, bv_length] at this
    simp at this
    omega
  have hrun := run_copy_row (P := P) w dT sT o.type 5 g off dLen dCap ad sLen sCap cur 5 (bv (m.take N)) hu hsz hh (by rw [hcl]; exact hN.symm) (fun j v hv => by
    refine hsrc j v ?_
    simp only [bv, List.map_take, List.getElem?_take] at hv
    split at hv
    · exact hv
    · cases hv) (by rw [hcl]; omega) (bv_one _)
  rw [hcl] at hrun
  obtain ⟨W, hW⟩ : ∃ W, w.setRow g (cur.toList.take off ++ bv (m.take N) ++ cur.toList.drop (off + N)).toArray = W := ⟨_, rfl⟩
  rw [hW] at hrun
  unfold Oper.wp
  simp [execOp, ho, resolve, invoke, builtin, hd, hs, hrun, Result.andThen]
  refine h W ?_ (by rw [← hW]; exact ⟨rfl, rfl, rfl, by simp [World.setRow], fun k hk hne => setRow_other w g k _ (fun e => hne (by rw [e]))⟩)
  rw [← hW]
  refine ⟨_, setRow_heap w g _ _ _ _ hh, ?_⟩
  show (cur.toList.take off ++ bv (m.take N) ++ cur.toList.drop (off + N)).take _ = _
  have hsl : (splice l off (m.take N)).length = l.length := by
    have : (m.take N).length = N := by rw [List.length_take]; omega
    simp [splice, this]
    omega
  rw [hsl]
  have hcur : cur.toList = bv l ++ cur.toList.drop l.length := by rw [← htk, List.take_append_drop]
  rw [hcur]
  have hbl : (bv l).length = l.length := bv_length l
  generalize cur.toList.drop l.length = r
  rw [show (bv l ++ r).take off = (bv l).take off from List.take_append_of_le_length (by omega), show (bv l ++ r).drop (off + N) = (bv l).drop (off + N) ++ r from List.drop_append_of_le_length (by omega)]
  have e : (bv (splice l off (m.take N))) = (bv l).take off ++ (bv (m.take N) ++ (bv l).drop (off + N)) := by
    have : (m.take N).length = N := by rw [List.length_take]; omega
    simp [splice, bv, List.map_take, List.map_drop, this]
  rw [e]
  have hlen : ((bv l).take off ++ (bv (m.take N) ++ (bv l).drop (off + N))).length = l.length := by
    rw [List.length_append, List.length_append, List.length_take, List.length_drop, hcl, hbl]; omega
  have e2 : (bv l).take off ++ bv (m.take N) ++ ((bv l).drop (off + N) ++ r) = ((bv l).take off ++ (bv (m.take N) ++ (bv l).drop (off + N))) ++ r := by simp [List.append_assoc]
  rw [e2]
  exact List.take_left' hlen
theorem t32 (S T : Nat) (h : S = T * 128) (h2 : S ≤ 4096) : T ≤ 32 := by omega
theorem t_div (S T : Nat) (h : S = T * 128) (h2 : S ≤ 4096) : wrap64 ((S : Int) / 128) = (T : Int) := by
  rw [h, show ((T * 128 : Nat) : Int) / 128 = (T : Int) by omega]
  exact IntWalk.wrap64_in _ (by omega)
theorem pick_bit (pk : UInt8) (s : Nat) : (bits BinOp.and IntKind.u8 ((pk.toNat : Int) / 2 ^ (s % 8)) 1 == 1) = pickB pk (s * 128) := by
  have e : ((pk.toNat : Int) / 2 ^ (s % 8)) = ((pk.toNat >>> (s % 8) : Nat) : Int) := by
    rw [Nat.shiftRight_eq_div_pow]
    simp
  have hlt : pk.toNat >>> (s % 8) < 256 := Nat.lt_of_le_of_lt (Nat.shiftRight_le _ _) pk.toNat_lt
  have h2 : bits BinOp.and IntKind.u8 ((pk.toNat >>> (s % 8) : Nat) : Int) 1 = ((pk.toNat >>> (s % 8) &&& 1 : Nat) : Int) := u8_and_nat _ 1 hlt (by omega)
  rw [e, h2, Nat.and_one_is_mod]
  unfold pickB
  rw [Nat.mul_div_cancel _ (by omega)]
  rcases Nat.mod_two_eq_zero_or_one (pk.toNat >>> (s % 8)) with h | h <;> rw [h] <;> rfl
theorem crashed_nil (g : List (List UInt8)) (ps : List UInt8) : crashed g [] ps = g := by cases ps <;> rfl
theorem crashed_take_succ {l : List (Nat × List UInt8)} : ∀ {ps : List UInt8} {g : List (List UInt8)} {k : Nat} {x : Nat × List UInt8} {q : UInt8}, l[k]? = some x → ps[k]? = some q →
    crashed g (l.take (k + 1)) ps = (crashed g (l.take k) ps).set x.1 (mixed q ((crashed g (l.take k) ps).getD x.1 []) x.2) := by
  induction l with
  | nil => intro ps g k x q h; simp at h
  | cons y l ih =>
    intro ps g k x q hx hq
    cases ps with
    | nil => simp at hq
    | cons r ps =>
      cases k with
      | zero =>
        simp at hx hq
        subst hx hq
        show crashed (g.set y.1 _) [] ps = _
        rw [crashed_nil]
        rfl
      | succ k => exact ih (by simpa using hx) (by simpa using hq)
theorem crashed_take_all {l : List (Nat × List UInt8)} : ∀ {ps : List UInt8} {g : List (List UInt8)}, crashed g (l.take (min l.length ps.length)) ps = crashed g l ps := by
  induction l with
  | nil => intro ps g; simp
  | cons y l ih =>
    intro ps g
    cases ps with
    | nil => rfl
    | cons r ps =>
      rw [List.length_cons, List.length_cons, Nat.add_min_add_right, List.take_succ_cons]
      exact ih
def crashTo (D : Dk) (ps : List UInt8) (k : Nat) : Dk := { D with good := crashed D.good (D.loose.take k) ps }
theorem crashTo_zero (D : Dk) (ps : List UInt8) : crashTo D ps 0 = D := by unfold crashTo; rw [List.take_zero, crashed_nil]
theorem crashTo_succ (D : Dk) (ps : List UInt8) {k : Nat} {x : Nat × List UInt8} {q : UInt8} (h : D.loose[k]? = some x) (hq : ps[k]? = some q) : ({ crashTo D ps k with good := (crashTo D ps k).good.set x.1 (mixed q ((crashTo D ps k).good.getD x.1 []) x.2) } : Dk) = crashTo D ps (k + 1) := by
  unfold crashTo
  rw [crashed_take_succ h hq]
theorem DAt.crashEnd {w : World} {base p : Nat} {ok : Nat → Prop} {D : Dk} {G L Z : Value} {dn : Int} (h : DAt w base ok p D G L dn Z) : DAt ((w.setCell ⟨p, 3, none⟩ (.slice none 0 0)).setCell ⟨p, 4, none⟩ (.int .i64 (-1))) base ok p { D with loose := [], fails := -1 } G (.slice none 0 0) dn Z := by
  have h1 := h.shut
  exact h1.at_ ((At.refl p _).setCell 4 _) (h1.blk.set4 (-1)) rfl rfl rfl ⟨h.wf.s1, h.wf.s2, h.wf.s3, h.wf.l1, h.wf.l2, h.wf.g1, h.wf.g2, (by intro x hx; cases hx), by show (-1 : Int) ≤ -1; omega, by show (-1 : Int) ≤ _; omega⟩ h.cb
end Go.Proofs.Ythijobbhpbklmaa

namespace Go.Proofs.Ythijobbhpbklmaa
open Go.RowKit
def CrashP (w : World) (base : Nat) (ok : Nat → Prop) (p : Nat) (D : Dk) (ps : List UInt8) (e : Ending) (w' : World) : Prop :=
  e = .returned (.tuple #[]) ∧ DiskAt w' base ok p (D.crash ps) ∧ Fr ok w w'
set_option maxRecDepth 100000 in
set_option maxHeartbeats 4000000 in
theorem dcrash_any {w : World} {base : Nat} {ok : Nat → Prop} {p : Nat} {D : Dk} (h : DiskAt w base ok p D) (hfr : ∀ k, w.heap.size ≤ k → ok k) (hbase : base ≤ w.heap.size) (hlo : D.loose.length ≤ 1000000000) (A : Option Addr) (n c : Nat) (ps : List UInt8) (hps : Sl w w.heap.size A n c ps) (hno : 0 < n → ∀ ad, A = some ad → ¬ ok ad.block) :
    Calls Try.prog 24 #[.pointer (some ⟨p, 0, none⟩), .slice A n c] w (CrashP w base ok p D ps) := by
  obtain ⟨il, li0, lz0, lz1, lz2⟩ := info_parts info_loose
  obtain ⟨iu, ui0, uz0, uz1, uz2⟩ := info_parts info_u8
  obtain ⟨G, L, dn, Z, h⟩ := h
  have hpl := hps.len
  have HPS := Lib.hid (fun (W : World) (hF : Fr ok w W) (k : Nat) (hk : k < n) => (by
    obtain ⟨ad, u, ea, hb, hu, hc⟩ := hps.reads.at_ hk
    have hbk := hF.2.2.2.2 ad.block hb (hno (by omega) ad ea)
    simp only [bv, List.getElem?_map, Option.map_eq_some_iff] at hu
    obtain ⟨q, hq, rfl⟩ := hu
    exact ⟨ad, q, ea, hq, (World.cell?_of_block (by rw [block_of_add]; exact hbk)).trans hc⟩ : ∃ (ad : Addr) (q : UInt8), A = some ad ∧ ps[k]? = some q ∧ W.cell? (ad.add k) = some (.int .u8 (q.toNat : Int))))
  have hncap := hps.cap
  clear hps hno
  have hl2 : D.good.length ≤ 65536 := Nat.le_trans h.wf.g1 h.wf.l2
  have hwf := h.wf
  obtain ⟨Al, cl, csl, hL0, hoL, _, hrowL⟩ := h.loose
  obtain ⟨m, hm⟩ : ∃ m, D.loose.length = m := ⟨_, rfl⟩
  rw [hm] at hL0 hlo
  subst hL0
  have HMM := Lib.hid hm
  have hmc : m ≤ cl := by
    rw [hm] at hoL
    rcases hoL.2 with ⟨e, h0⟩ | ⟨g, cap, cur, e, _, _, h3, _⟩
    · rw [h0]; exact Nat.zero_le _
    · injection e with _ _ e; omega
  have HWF := Lib.hid hwf
  have HD0 := Lib.hid (show DAt w base ok p (crashTo D ps 0) G (.slice Al m cl) dn Z from by rw [crashTo_zero]; exact h)
  obtain ⟨_, _, e2, e3, _⟩ := h.blk.cells
  have hmi : (if n < m then (n : Int) else (m : Int)) = ((min m n : Nat) : Int) := by split <;> omega
  obtain ⟨mn, hmn⟩ : ∃ mn, min m n = mn := ⟨_, rfl⟩
  rw [hmn] at hmi
  have hm1 : mn ≤ m := by omega
  have hm2 : mn ≤ n := by omega
  have hm3 : mn ≤ cl := by omega
  have HMN := Lib.hid hmn
  obtain ⟨T, hT⟩ : ∃ T, D.size = T * 128 := ⟨D.size / 128, by have := hwf.s3; omega⟩
  have hdv : wrap64 ((D.size : Int) / 128) = (T : Int) := t_div _ _ hT hwf.s2
  have HT := Lib.hid hT
  have hTs : T ≤ 32 := t32 _ _ hT hwf.s2
  clear hoL hrowL hm hwf hmn h hT
  go_enter Try.func24, Try.ntmps24
  go_wp2_with fail
  refine wp_region_held_drew (S := (fun w' => w'.cell? ⟨p, 3, none⟩ = some (.slice Al m cl))) (by kernel_rfl) ?_ (fun hHeld => ?_)
  · exact e3
  refine takeP (i := 0) rfl (by kernel_rfl) (by kernel_rfl) (by kernel_rfl) (fun _ _ _ h => h) (by rfl) (by assumption) (v := ?_) ?_ ?_
  rotate_left
  · intro w' hSw
    try dsimp only at hSw
    go_simp
    try with_reducible rfl
  try simp only [Act.put, setIfInBounds_toArray, set_cons_zero, set_cons_succ]
  refine takeP (i := 1) rfl (by kernel_rfl) (by kernel_rfl) (by kernel_rfl) (fun _ _ _ h => h) (by rfl) (by assumption) (v := ?_) ?_ ?_
  rotate_left
  · intro w' hSw
    try dsimp only at hSw
    go_simp
    try with_reducible rfl
  try simp only [Act.put, setIfInBounds_toArray, set_cons_zero, set_cons_succ]
  refine takeP (i := 2) rfl (by kernel_rfl) (by kernel_rfl) (by kernel_rfl) (fun _ _ _ h => h) (by rfl) (by assumption) (v := ?_) ?_ ?_
  rotate_left
  · intro w' hSw
    try dsimp only at hSw
    go_simp
    try with_reducible rfl
  try simp only [Act.put, setIfInBounds_toArray, set_cons_zero, set_cons_succ]
  refine takeP (i := 3) rfl (by kernel_rfl) (by kernel_rfl) (by kernel_rfl) (fun _ _ _ h => h) (by rfl) (by assumption) (v := ?_) ?_ ?_
  rotate_left
  · intro w' hSw
    try dsimp only at hSw
    go_simp
    try with_reducible rfl
  try simp only [Act.put, setIfInBounds_toArray, set_cons_zero, set_cons_succ]
  refine takeP (i := 4) rfl (by kernel_rfl) (by kernel_rfl) (by kernel_rfl) (fun _ _ _ h => h) (by rfl) (by assumption) (v := ?_) ?_ ?_
  rotate_left
  · intro w' hSw
    try dsimp only at hSw
    go_simp
    try with_reducible rfl
  try simp only [Act.put, setIfInBounds_toArray, set_cons_zero, set_cons_succ]
  refine takeP (i := 5) rfl (by kernel_rfl) (by kernel_rfl) (by kernel_rfl) (fun _ _ _ h => h) (by rfl) (by assumption) (v := ?_) ?_ ?_
  rotate_left
  · intro w' hSw
    try dsimp only at hSw
    go_simp
    try with_reducible rfl
  try simp only [Act.put, setIfInBounds_toArray, set_cons_zero, set_cons_succ]
  refine takeP (i := 6) rfl (by kernel_rfl) (by kernel_rfl) (by kernel_rfl) (fun _ _ _ h => h) (by rfl) (by assumption) (v := ?_) ?_ ?_
  rotate_left
  · intro w' hSw
    try dsimp only at hSw
    go_simp
    try with_reducible rfl
  try simp only [Act.put, setIfInBounds_toArray, set_cons_zero, set_cons_succ]
  refine takeP (i := 7) rfl (by kernel_rfl) (by kernel_rfl) (by kernel_rfl) (fun _ _ _ h => h) (by rfl) (by assumption) (v := ?_) ?_ ?_
  rotate_left
  · intro w' hSw
    try dsimp only at hSw
    go_simp
    try with_reducible rfl
  try simp only [Act.put, setIfInBounds_toArray, set_cons_zero, set_cons_succ]
  refine takeP (i := 8) rfl (by kernel_rfl) (by kernel_rfl) (by kernel_rfl) (fun _ _ _ h => h) (by rfl) (by assumption) (v := ?_) ?_ ?_
  rotate_left
  · intro w' hSw
    try dsimp only at hSw
    go_simp
    try with_reducible rfl
  try simp only [Act.put, setIfInBounds_toArray, set_cons_zero, set_cons_succ]
  refine takeP (i := 9) rfl (by kernel_rfl) (by kernel_rfl) (by kernel_rfl) (fun _ _ _ h => h) (by rfl) (by assumption) (v := ?_) ?_ ?_
  rotate_left
  · intro w' hSw
    try dsimp only at hSw
    go_simp
    try with_reducible rfl
  try simp only [Act.put, setIfInBounds_toArray, set_cons_zero, set_cons_succ]
  refine takeP (i := 10) rfl (by kernel_rfl) (by kernel_rfl) (by kernel_rfl) (fun _ _ _ h => h) (by rfl) (by assumption) (v := ?_) ?_ ?_
  rotate_left
  · intro w' hSw
    try dsimp only at hSw
    go_simp
    try with_reducible rfl
  try simp only [Act.put, setIfInBounds_toArray, set_cons_zero, set_cons_succ]
  refine takeP (i := 11) rfl (by kernel_rfl) (by kernel_rfl) (by kernel_rfl) (fun _ _ _ h => h) (by rfl) (by assumption) (v := ?_) ?_ ?_
  rotate_left
  · intro w' hSw
    try dsimp only at hSw
    go_simp
    try with_reducible rfl
  try simp only [Act.put, setIfInBounds_toArray, set_cons_zero, set_cons_succ]
  refine takeP (i := 12) rfl (by kernel_rfl) (by kernel_rfl) (by kernel_rfl) (fun _ _ _ h => h) (by rfl) (by assumption) (v := ?_) ?_ ?_
  rotate_left
  · intro w' hSw
    try dsimp only at hSw
    go_simp
    try with_reducible rfl
  try simp only [Act.put, setIfInBounds_toArray, set_cons_zero, set_cons_succ]
  refine takeP (i := 13) rfl (by kernel_rfl) (by kernel_rfl) (by kernel_rfl) (fun _ _ _ h => h) (by rfl) (by assumption) (v := ?_) ?_ ?_
  rotate_left
  · intro w' hSw
    try dsimp only at hSw
    go_simp
    try with_reducible rfl
  try simp only [Act.put, setIfInBounds_toArray, set_cons_zero, set_cons_succ]
  refine takeP (i := 14) rfl (by kernel_rfl) (by kernel_rfl) (by kernel_rfl) (fun _ _ _ h => h) (by rfl) (by assumption) (v := ?_) ?_ ?_
  rotate_left
  · intro w' hSw
    try dsimp only at hSw
    go_simp
    try with_reducible rfl
  try simp only [Act.put, setIfInBounds_toArray, set_cons_zero, set_cons_succ]
  refine wpAnyH_done (by kernel_rfl) ?_ _
  clear e2 e3
  go_wp2_with fail
  go_loopw [24] (fun i wr => ∃ k : Nat, k ≤ mn ∧ i = .int .i64 (k : Int) ∧ DAt wr base ok p (crashTo D ps k) G (.slice Al m cl) dn Z ∧ Fr ok w wr) (fun i _ => mn - (intOf i).toNat)
  case atStart => exact ⟨0, Nat.zero_le _, rfl, HD0.out.drew, (Fr.refl _ _).drew⟩
  case round =>
    obtain ⟨k, hk, rfl, hDr, hFr⟩ := hrel
    obtain ⟨wo, hwo⟩ : ∃ wo, wo = wr := ⟨_, rfl⟩
    subst hwo
    have hbs := hFr.size
    by_cases hlt : k < mn
    · obtain ⟨adp, pk, rfl, hpk, hpc⟩ := HPS.out wo hFr k (by omega)
      obtain ⟨Al', cl', csl, hL1, hoL, _, hrowL⟩ := hDr.loose
      rw [show (crashTo D ps k).loose.length = m from HMM.out] at hoL
      have hR := Reads.of_own hoL
      obtain ⟨x, hx⟩ : ∃ x, D.loose[k]? = some x := ⟨_, List.getElem?_eq_getElem (by rw [HMM.out]; omega)⟩
      obtain ⟨u, hu0, hu, hpu⟩ := hrowL k x hx
      obtain ⟨adl, rfl, hb, hcl⟩ := hR.2 (by omega)
      have ca := hcl _ _ hu0
      have cb := hcl _ _ hu
      rw [← add_of_add] at cb
      obtain ⟨Au, cu, hue, huc⟩ := hpu.len
      subst hue
      have cb : wo.cell? ⟨(adl.add (k * 2)).block, (adl.add (k * 2)).off + 1, none⟩ = some (.slice (some Au) x.2.length cu) := cb
      obtain ⟨W1, hW1⟩ : ∃ W1, wo.alloc (.cells #[.int .i64 (x.1 : Int), .slice (some Au) x.2.length cu] 129) = W1 := ⟨_, rfl⟩
      have hb8 : Below wo.heap.size wo W1.drew := by rw [← hW1]; exact ((Below.refl _ _).alloc (Nat.le_refl _) _).drew
      have hD8 := hDr.below hb8
      have hpu8 := hpu.keep (w' := W1.drew) (ok' := ok) fun g C fr ho hg => ⟨hb8.block g (blk_lt hg), ho⟩
      have hxo := HWF.out.o1 x (List.mem_of_getElem? hx)
      obtain ⟨X, xb⟩ := x
      obtain ⟨q, hn⟩ : ∃ q, D.good.length = q := ⟨_, rfl⟩
      rw [hn] at hl2
      have hx1 : X < q := by rw [← hn]; exact hxo.1
      have HXL := Lib.hid (show xb.length = D.size from hxo.2)
      have hgl : (crashTo D ps k).good.length = q := (crashed_length _ _ _).trans hn
      obtain ⟨Ag, cg, csg, hGe, hoG, hGok, hrowG⟩ := hD8.good
      obtain ⟨l0, hl0⟩ : ∃ l, (crashTo D ps k).good[X]? = some l := ⟨_, List.getElem?_eq_getElem (by rw [hgl]; exact hx1)⟩
      obtain ⟨v0, hv0, hp0⟩ := hrowG X l0 hl0
      have hl0s : l0.length = D.size := hD8.wf.g2 l0 (List.mem_of_getElem? hl0)
      obtain ⟨A0, c0, hve, hsl0⟩ := hp0.sl
      subst hve
      obtain ⟨gG, cG, CG, hGe', hgC, c00, z00, _⟩ := own_set1 hoG (show X < (crashTo D ps k).good.length by rw [hgl]; exact hx1) (.slice none 0 0)
      rw [hgl] at hGe'
      rw [hGe'] at hGe
      have hgc2 : W1.cell? ⟨gG, X, none⟩ = some (.slice A0 l0.length c0) := by
        have := c00.trans hv0
        exact this
      subst hGe'
      have e2 : W1.cell? ⟨p, 2, none⟩ = some (.slice (some ⟨gG, 0, none⟩) q cG) := hD8.blk.cells.2.2.1
      have b0 : W1.cell? ⟨wo.heap.size, 0, none⟩ = some (.int .i64 (X : Int)) := by rw [← hW1]; simp
      have b1 : W1.cell? ⟨wo.heap.size, 1, none⟩ = some (.slice (some Au) xb.length cu) := by rw [← hW1]; simp
      have HBX := Lib.hid (show W1.heap[wo.heap.size]? = some (.cells #[.int .i64 (X : Int), .slice (some Au) xb.length cu] 129 (0, 0)) by rw [← hW1]; exact heap_alloc_new wo _)
      have bz : W1.heap.size = wo.heap.size + 1 := by rw [← hW1]; simp
      have HLEN := Lib.hid hgl
      have HX := Lib.hid hx
      have HL0 := Lib.hid hl0
      have HO := Lib.hid hoG
      have HPU := Lib.hid hpu8
      have HB8 := Lib.hid hb8
      have HDR := Lib.hid hDr
      have HPK := Lib.hid hpk
      have HL0S := Lib.hid hl0s
      rw [hl0s] at hgc2 hsl0
      clear hb8 hD8 hpu8 hxo hn hrowL hoL hR hcl hpu hx hDr hgl hu hu0 hL1 hgC hrowG hoG hGok hGe hl0 hv0 hp0 c00 z00 hpk
      go_wp2_with fail
      clear hW1
      refine wp_region_held_drew (S := (fun w' => w'.cell? ⟨p, 2, none⟩ = some (.slice (some ⟨gG, 0, none⟩) q cG) ∧ w'.cell? ⟨wo.heap.size, 0, none⟩ = some (.int .i64 (X : Int)) ∧ w'.cell? ⟨gG, X, none⟩ = some (.slice A0 D.size c0))) (by kernel_rfl) ?_ (fun hHeld => ?_)
      · first | exact ⟨e2, b0, hgc2⟩ | exact hkeep
      refine takeP (i := 0) rfl (by kernel_rfl) (by kernel_rfl) (by kernel_rfl) (fun _ _ _ h => h) (by rfl) (by assumption) (v := ?_) ?_ ?_
      rotate_left
      · intro w' hSw
        try dsimp only at hSw
        go_simp
        try with_reducible rfl
      try simp only [Act.put, setIfInBounds_toArray, set_cons_zero, set_cons_succ]
      refine takeP (i := 1) rfl (by kernel_rfl) (by kernel_rfl) (by kernel_rfl) (fun _ _ _ h => h) (by rfl) (by assumption) (v := ?_) ?_ ?_
      rotate_left
      · intro w' hSw
        try dsimp only at hSw
        go_simp
        try with_reducible rfl
      try simp only [Act.put, setIfInBounds_toArray, set_cons_zero, set_cons_succ]
      refine takeP (i := 2) rfl (by kernel_rfl) (by kernel_rfl) (by kernel_rfl) (fun _ _ _ h => h) (by rfl) (by assumption) (v := ?_) ?_ ?_
      rotate_left
      · intro w' hSw
        try dsimp only at hSw
        go_simp
        try with_reducible rfl
      try simp only [Act.put, setIfInBounds_toArray, set_cons_zero, set_cons_succ]
      refine takeP (i := 3) rfl (by kernel_rfl) (by kernel_rfl) (by kernel_rfl) (fun _ _ _ h => h) (by rfl) (by assumption) (v := ?_) ?_ ?_
      rotate_left
      · intro w' hSw
        try dsimp only at hSw
        go_simp
        try with_reducible rfl
      try simp only [Act.put, setIfInBounds_toArray, set_cons_zero, set_cons_succ]
      refine takeP (i := 4) rfl (by kernel_rfl) (by kernel_rfl) (by kernel_rfl) (fun _ _ _ h => h) (by rfl) (by assumption) (v := ?_) ?_ ?_
      rotate_left
      · intro w' hSw
        try dsimp only at hSw
        go_simp
        try with_reducible rfl
      try simp only [Act.put, setIfInBounds_toArray, set_cons_zero, set_cons_succ]
      refine takeP (i := 5) rfl (by kernel_rfl) (by kernel_rfl) (by kernel_rfl) (fun _ _ _ h => h) (by rfl) (by assumption) (v := ?_) ?_ ?_
      rotate_left
      · intro w' hSw
        try dsimp only at hSw
        go_simp
        try with_reducible rfl
      try simp only [Act.put, setIfInBounds_toArray, set_cons_zero, set_cons_succ]
      refine takeP (i := 6) rfl (by kernel_rfl) (by kernel_rfl) (by kernel_rfl) (fun _ _ _ h => h) (by rfl) (by assumption) (v := ?_) ?_ ?_
      rotate_left
      · intro w' hSw
        try dsimp only at hSw
        go_simp
        try with_reducible rfl
      try simp only [Act.put, setIfInBounds_toArray, set_cons_zero, set_cons_succ]
      refine takeP (i := 7) rfl (by kernel_rfl) (by kernel_rfl) (by kernel_rfl) (fun _ _ _ h => h) (by rfl) (by assumption) (v := ?_) ?_ ?_
      rotate_left
      · intro w' hSw
        try dsimp only at hSw
        go_simp
        try with_reducible rfl
      try simp only [Act.put, setIfInBounds_toArray, set_cons_zero, set_cons_succ]
      refine carryP (i := 8) rfl (by kernel_rfl) (by rfl) (fun K hK => ?_)
      go_simp
      refine (clone_any _ _ _ _ _ _ hsl0 (by have := HWF.out.s2; omega)).mono ?_
      rintro e w5 ⟨v5, he5, hown5, hb5⟩
      obtain ⟨g5, c5, hv5, hcb5, hcc5, hg5⟩ := CB.of_own hown5 (by have := HWF.out.s1; omega)
      subst hv5
      subst he5
      have hkeep : w5.cell? ⟨p, 2, none⟩ = some (.slice (some ⟨gG, 0, none⟩) q cG) ∧ w5.cell? ⟨wo.heap.size, 0, none⟩ = some (.int .i64 (X : Int)) ∧ w5.cell? ⟨gG, X, none⟩ = some (.slice A0 D.size c0) :=
        ⟨(hb5.cell (World.block_lt_of_cell? _ _ e2)).trans e2, (hb5.cell (World.block_lt_of_cell? _ _ b0)).trans b0, (hb5.cell (World.block_lt_of_cell? _ _ hgc2)).trans hgc2⟩
      refine hK.out _ _ ?_ (fun hHeld => ?_)
      · first | exact ⟨e2, b0, hgc2⟩ | exact hkeep
      clear hK K
      try simp only [Act.put, setIfInBounds_toArray, set_cons_zero, set_cons_succ]
      refine takeP (i := 9) rfl (by kernel_rfl) (by kernel_rfl) (by kernel_rfl) (fun _ _ _ h => h) (by rfl) (by assumption) (v := ?_) ?_ ?_
      rotate_left
      · intro w' hSw
        try dsimp only at hSw
        go_simp
        try with_reducible rfl
      try simp only [Act.put, setIfInBounds_toArray, set_cons_zero, set_cons_succ]
      refine wpAnyH_done (by kernel_rfl) ?_ _
      have hbx : w5.heap[wo.heap.size]? = some (.cells #[.int .i64 (X : Int), .slice (some Au) xb.length cu] 129 (0, 0)) := (hb5.block wo.heap.size (by show wo.heap.size < W1.heap.size; omega)).trans HBX.out
      have hb9 : Below wo.heap.size wo w5 := HB8.out.trans (hb5.mono (by show wo.heap.size ≤ W1.heap.size; omega))
      have hD5 := HDR.out.below hb9
      have d0 : w5.cell? ⟨p, 0, none⟩ = some (.int .i64 (D.size : Int)) := hD5.blk.cells.1
      have hpb := World.block_lt_of_cell? _ _ hpc
      have hg5' : wo.heap.size < g5 := by have : W1.heap.size ≤ g5 := hg5; omega
      have hcb5' : CB w5 g5 (mixTo pk l0 xb 0) := by rw [mixTo_zero]; exact hcb5
      have HB9 := Lib.hid hb9
      have HBX5 := Lib.hid hbx
      have HPU5 := Lib.hid (HPU.out.keep (w' := w5) (ok' := fun k => k ≠ g5) fun g C fr ho hg => ⟨hb5.block g (blk_lt hg), by have h1 : g < W1.heap.size := blk_lt hg; have h2 : W1.heap.size ≤ g5 := hg5; omega⟩)
      clear hown5 hb5 hkeep hbx hb9 hD5 hcb5 hg5 e2 b0 b1 hgc2 hsl0
      go_wp2_with fail
      rw [hdv]
      clear d0 hdv
      go_loopw [43] (fun i wr => ∃ s : Nat, s ≤ T ∧ i = .int .i64 (s : Int) ∧ CB wr g5 (mixTo pk l0 xb s) ∧ At g5 w5 wr) (fun i _ => T - (intOf i).toNat)
      case atStart => exact ⟨0, Nat.zero_le _, rfl, hcb5', At.refl _ _⟩
      case round =>
        obtain ⟨s, hs, rfl, hCB, hAi⟩ := hrel
        have hbw := HB9.out.trans (hAi.below (Nat.le_of_lt hg5') HB9.out.size)
        have hpci := (hbw.cell hpb).trans hpc
        have hbxi := (hAi.block wo.heap.size (blk_lt HBX5.out) (by intro e; injection e with e; omega)).trans HBX5.out
        obtain ⟨b0, b1, _, _⟩ := blk2 hbxi
        by_cases hst : s < T
        · have hpb := pick_bit pk s
          by_cases hpk : pickB pk (s * 128) = true
          · rw [hpk] at hpb
            have hsT : (s + 1) * 128 ≤ D.size := by have := HT.out; omega
            obtain ⟨hi6, hhi⟩ : ∃ hi6, (s + 1) * 128 = hi6 := ⟨_, rfl⟩
            have hPUi := HPU5.out.keep (w' := wr) (ok' := fun _ => True) fun g C fr ho hg => ⟨hAi.block g (blk_lt hg) (by intro e; injection e with e; exact ho e), trivial⟩
            obtain ⟨Au', cu', hue', hslu⟩ := hPUi.sl
            injection hue' with hue1 _ hue2
            subst hue1 hue2
            have hr6 := hslu.reads.cut (k := s * 128) (by rw [HXL.out]; omega) huc
            rw [if_neg (by rw [HXL.out] at huc; omega)] at hr6
            have HS6 := Lib.hid (show Sl wr wr.heap.size (some (Au.add (s * 128))) (xb.length - s * 128) (cu - s * 128) (xb.drop (s * 128)) from ⟨by simpa [bv, List.map_drop] using hr6, by rw [List.length_drop], by omega, fun h => by cases h⟩)
            obtain ⟨lo, hlo⟩ : ∃ lo, s * 128 = lo := ⟨_, rfl⟩
            have hi1 : hi6 = lo + 128 := by omega
            have hw1 : IntKind.i64.wrap ((s : Int) * 128) = (lo : Int) := by rw [show (s : Int) * 128 = (lo : Int) by omega]; exact IntWalk.i64_in _ (by omega)
            have hw0 : IntKind.i64.wrap ((s : Int) + 1) = (s : Int) + 1 := IntWalk.i64_in _ (by omega)
            have hw2 : IntKind.i64.wrap (IntKind.i64.wrap ((s : Int) + 1) * 128) = (hi6 : Int) := by rw [hw0, show ((s : Int) + 1) * 128 = (hi6 : Int) by omega]; exact IntWalk.i64_in _ (by omega)
            clear hw0
            have hc5n : ¬ c5 = lo := by omega
            have hcun : ¬ cu = lo := by rw [HXL.out] at huc; omega
            have hlox : lo ≤ xb.length := by rw [HXL.out]; omega
            have hhl : hi6 - lo = 128 := by omega
            have hhc : hi6 ≤ c5 := by omega
            have hloh : lo ≤ hi6 := by omega
            have hls : lo + 128 ≤ D.size := by omega
            clear hi1
            have hmx := mixTo_take pk l0 xb s (by rw [HXL.out, HL0S.out]) (by rw [HL0S.out]; exact hsT) hpk
            have HMX := Lib.hid hmx
            have hml : (mixTo pk l0 xb s).length = D.size := (mixTo_length _ _ _ _).trans HL0S.out
            have hxl6 : 128 ≤ xb.length - s * 128 := by rw [HXL.out]; omega
            rw [hlo] at HS6 HMX hxl6
            clear hmx hslu hPUi hpk hr6 hhi hlo
            go_wp2_with fail
            refine wp_region_held_drew (S := (fun w' => w'.cell? ⟨wo.heap.size, 1, none⟩ = some (.slice (some Au) xb.length cu))) (by kernel_rfl) ?_ (fun hHeld => ?_)
            · first | exact b1 | exact hkeep
            refine takeP (i := 0) rfl (by kernel_rfl) (by kernel_rfl) (by kernel_rfl) (fun _ _ _ h => h) (by rfl) (by assumption) (v := ?_) ?_ ?_
            rotate_left
            · intro w' hSw
              try dsimp only at hSw
              go_simp
              try with_reducible rfl
            try simp only [Act.put, setIfInBounds_toArray, set_cons_zero, set_cons_succ]
            refine takeP (i := 1) rfl (by kernel_rfl) (by kernel_rfl) (by kernel_rfl) (fun _ _ _ h => h) (by rfl) (by assumption) (v := ?_) ?_ ?_
            rotate_left
            · intro w' hSw
              try dsimp only at hSw
              go_simp
              try with_reducible rfl
            try simp only [Act.put, setIfInBounds_toArray, set_cons_zero, set_cons_succ]
            refine takeP (i := 2) rfl (by kernel_rfl) (by kernel_rfl) (by kernel_rfl) (fun _ _ _ h => h) (by rfl) (by assumption) (v := ?_) ?_ ?_
            rotate_left
            · intro w' hSw
              try dsimp only at hSw
              go_simp
              try with_reducible rfl
            try simp only [Act.put, setIfInBounds_toArray, set_cons_zero, set_cons_succ]
            refine takeP (i := 3) rfl (by kernel_rfl) (by kernel_rfl) (by kernel_rfl) (fun _ _ _ h => h) (by rfl) (by assumption) (v := ?_) ?_ ?_
            rotate_left
            · intro w' hSw
              try dsimp only at hSw
              go_simp
              try with_reducible rfl
            try simp only [Act.put, setIfInBounds_toArray, set_cons_zero, set_cons_succ]
            refine takeP (i := 4) rfl (by kernel_rfl) (by kernel_rfl) (by kernel_rfl) (fun _ _ _ h => h) (by rfl) (by assumption) (v := ?_) ?_ ?_
            rotate_left
            · intro w' hSw
              try dsimp only at hSw
              go_simp
              try with_reducible rfl
            try simp only [Act.put, setIfInBounds_toArray, set_cons_zero, set_cons_succ]
            refine takeP (i := 5) rfl (by kernel_rfl) (by kernel_rfl) (by kernel_rfl) (fun _ _ _ h => h) (by rfl) (by assumption) (v := ?_) ?_ ?_
            rotate_left
            · intro w' hSw
              try dsimp only at hSw
              go_simp
              try with_reducible rfl
            try simp only [Act.put, setIfInBounds_toArray, set_cons_zero, set_cons_succ]
            refine takeP (i := 6) rfl (by kernel_rfl) (by kernel_rfl) (by kernel_rfl) (fun _ _ _ h => h) (by rfl) (by assumption) (v := ?_) ?_ ?_
            rotate_left
            · intro w' hSw
              try dsimp only at hSw
              go_simp
              try with_reducible rfl
            try simp only [Act.put, setIfInBounds_toArray, set_cons_zero, set_cons_succ]
            refine takeP (i := 7) rfl (by kernel_rfl) (by kernel_rfl) (by kernel_rfl) (fun _ _ _ h => h) (by rfl) (by assumption) (v := ?_) ?_ ?_
            rotate_left
            · intro w' hSw
              try dsimp only at hSw
              go_simp
              try with_reducible rfl
            try simp only [Act.put, setIfInBounds_toArray, set_cons_zero, set_cons_succ]
            refine takeP (i := 8) rfl (by kernel_rfl) (by kernel_rfl) (by kernel_rfl) (fun _ _ _ h => h) (by rfl) (by assumption) (v := ?_) ?_ ?_
            rotate_left
            · intro w' hSw
              try dsimp only at hSw
              go_simp
              try with_reducible rfl
            try simp only [Act.put, setIfInBounds_toArray, set_cons_zero, set_cons_succ]
            refine takeP (i := 9) rfl (by kernel_rfl) (by kernel_rfl) (by kernel_rfl) (fun _ _ _ h => h) (by rfl) (by assumption) (v := ?_) ?_ ?_
            rotate_left
            · intro w' hSw
              try dsimp only at hSw
              go_simp
              try with_reducible rfl
            try simp only [Act.put, setIfInBounds_toArray, set_cons_zero, set_cons_succ]
            refine takeP (i := 10) rfl (by kernel_rfl) (by kernel_rfl) (by kernel_rfl) (fun _ _ _ h => h) (by rfl) (by assumption) (v := ?_) ?_ ?_
            rotate_left
            · intro w' hSw
              try dsimp only at hSw
              go_simp
              try with_reducible rfl
            try simp only [Act.put, setIfInBounds_toArray, set_cons_zero, set_cons_succ]
            refine takeP (i := 11) rfl (by kernel_rfl) (by kernel_rfl) (by kernel_rfl) (fun _ _ _ h => h) (by rfl) (by assumption) (v := ?_) ?_ ?_
            rotate_left
            · intro w' hSw
              try dsimp only at hSw
              go_simp
              try with_reducible rfl
            try simp only [Act.put, setIfInBounds_toArray, set_cons_zero, set_cons_succ]
            refine carryP (i := 12) rfl (by kernel_rfl) (by rfl) (fun K hK => ?_)
            refine wp_copy_cb (.tmp 61) (.tmp 66) 30 30 rfl Try.underlying30 (by rw [ui0]; simp [uz1]) g5 lo 128 (c5 - lo) (some (Au.add lo)) (xb.length - lo) (cu - lo) (by rfl) (by rfl) _ _ hCB _ (HS6.out.same (w' := wr.drew) (fun _ _ => rfl)) 128 (by omega) (by omega) (by rw [hml]; exact hls) ?_
            intro w7 hCB7 hA7
            rw [← HMX.out] at hCB7
            have hkeep : w7.cell? ⟨wo.heap.size, 1, none⟩ = some (.slice (some Au) xb.length cu) := (World.cell?_of_block (hA7.block wo.heap.size (blk_lt hbxi) (by intro e; injection e with e; omega))).trans b1
            refine hK.out _ _ ?_ (fun hHeld => ?_)
            · first | exact b1 | exact hkeep
            clear hK K
            try simp only [Act.put, setIfInBounds_toArray, set_cons_zero, set_cons_succ]
            refine wpAnyH_done (by kernel_rfl) ?_ _
            go_wp2_with fail
            exact ⟨⟨s + 1, by omega, by go_num, hCB7, hAi.drew.trans hA7⟩, by simp [intOf]; omega⟩
          · have hpk' : pickB pk (s * 128) = false := by simpa using hpk
            rw [hpk'] at hpb
            have hmx := mixTo_skip pk l0 xb s hpk'
            have HCB := Lib.hid (show CB wr g5 (mixTo pk l0 xb (s + 1)) by rw [hmx]; exact hCB)
            clear hmx hpk hpk'
            go_wp2_with fail
            exact ⟨⟨s + 1, by omega, by go_num, HCB.out, hAi⟩, by simp [intOf]; omega⟩
        · obtain rfl : s = T := by omega
          have hDi := HDR.out.below hbw
          have hpgi : PgAt wr.drew ok (.slice (some ⟨g5, 0, none⟩) D.size c5) (mixTo pk l0 xb s) := hCB.pg (hfr g5 (by omega)) ((mixTo_length _ _ _ _).trans HL0S.out) hcc5
          obtain ⟨gG', cG', C, hGe, hgp, hgC, ⟨u0, c00⟩, z00, hD9, hF9⟩ := hDi.drew.setgood (i := X) (by rw [HLEN.out]; exact hx1) hpgi ((mixTo_length _ _ _ _).trans HL0S.out)
          rw [HLEN.out] at hGe
          obtain ⟨rfl, rfl⟩ : gG = gG' ∧ cG = cG' := by simpa using hGe
          have hme : mixTo pk l0 xb s = mixed pk ((crashTo D ps k).good.getD X []) xb := by
            rw [show (crashTo D ps k).good.getD X [] = l0 from by simp [List.getD, HL0.out]]
            unfold mixed
            rw [HL0S.out, HT.out, Nat.mul_div_cancel _ (by omega)]
          rw [hme, crashTo_succ D ps HX.out HPK.out] at hD9
          have HD9 := Lib.hid hD9
          have HF9 := Lib.hid ((hFr.trans (Fr.of_below hbw)).trans hF9)
          have e2 : wr.cell? ⟨p, 2, none⟩ = some (.slice (some ⟨gG, 0, none⟩) q cG) := hDi.blk.cells.2.2.1
          have c00 : wr.cell? ⟨gG, X, none⟩ = some u0 := c00
          have z00 : wr.frozen? ⟨gG, X, none⟩ = false := z00
          have hgz : gG ≠ wo.heap.size := fun e => by
            have h1 : wr.heap[gG]? = some (.cells C 30 (0, 0)) := hgC
            rw [e, hbxi] at h1
            injection h1 with h1
            injection h1 with _ h1
            exact absurd h1 (by decide)
          clear hDi hpgi hD9 hF9 hme hgC hCB hAi hbw
          go_wp2_with fail
          refine wp_region_held_drew (S := (fun w' => w'.cell? ⟨p, 2, none⟩ = some (.slice (some ⟨gG, 0, none⟩) q cG) ∧ w'.cell? ⟨wo.heap.size, 0, none⟩ = some (.int .i64 (X : Int)))) (by kernel_rfl) ?_ (fun hHeld => ?_)
          · first | exact ⟨e2, b0⟩ | exact ⟨by go_simp, by go_simp⟩
          refine takeP (i := 0) rfl (by kernel_rfl) (by kernel_rfl) (by kernel_rfl) (fun _ _ _ h => h) (by rfl) (by assumption) (v := ?_) ?_ ?_
          rotate_left
          · intro w' hSw
            try dsimp only at hSw
            go_simp
            try with_reducible rfl
          try simp only [Act.put, setIfInBounds_toArray, set_cons_zero, set_cons_succ]
          refine takeP (i := 1) rfl (by kernel_rfl) (by kernel_rfl) (by kernel_rfl) (fun _ _ _ h => h) (by rfl) (by assumption) (v := ?_) ?_ ?_
          rotate_left
          · intro w' hSw
            try dsimp only at hSw
            go_simp
            try with_reducible rfl
          try simp only [Act.put, setIfInBounds_toArray, set_cons_zero, set_cons_succ]
          refine takeP (i := 2) rfl (by kernel_rfl) (by kernel_rfl) (by kernel_rfl) (fun _ _ _ h => h) (by rfl) (by assumption) (v := ?_) ?_ ?_
          rotate_left
          · intro w' hSw
            try dsimp only at hSw
            go_simp
            try with_reducible rfl
          try simp only [Act.put, setIfInBounds_toArray, set_cons_zero, set_cons_succ]
          refine takeP (i := 3) rfl (by kernel_rfl) (by kernel_rfl) (by kernel_rfl) (fun _ _ _ h => h) (by rfl) (by assumption) (v := ?_) ?_ ?_
          rotate_left
          · intro w' hSw
            try dsimp only at hSw
            go_simp
            try with_reducible rfl
          try simp only [Act.put, setIfInBounds_toArray, set_cons_zero, set_cons_succ]
          refine takeP (i := 4) rfl (by kernel_rfl) (by kernel_rfl) (by kernel_rfl) (fun _ _ _ h => h) (by rfl) (by assumption) (v := ?_) ?_ ?_
          rotate_left
          · intro w' hSw
            try dsimp only at hSw
            go_simp
            try with_reducible rfl
          try simp only [Act.put, setIfInBounds_toArray, set_cons_zero, set_cons_succ]
          refine takeP (i := 5) rfl (by kernel_rfl) (by kernel_rfl) (by kernel_rfl) (fun _ _ _ h => h) (by rfl) (by assumption) (v := ?_) ?_ ?_
          rotate_left
          · intro w' hSw
            try dsimp only at hSw
            go_simp
            try with_reducible rfl
          try simp only [Act.put, setIfInBounds_toArray, set_cons_zero, set_cons_succ]
          refine takeP (i := 6) rfl (by kernel_rfl) (by kernel_rfl) (by kernel_rfl) (fun _ _ _ h => h) (by rfl) (by assumption) (v := ?_) ?_ ?_
          rotate_left
          · intro w' hSw
            try dsimp only at hSw
            go_simp
            try with_reducible rfl
          try simp only [Act.put, setIfInBounds_toArray, set_cons_zero, set_cons_succ]
          refine takeP (i := 7) rfl (by kernel_rfl) (by kernel_rfl) (by kernel_rfl) (fun _ _ _ h => h) (by rfl) (by assumption) (v := ?_) ?_ ?_
          rotate_left
          · intro w' hSw
            try dsimp only at hSw
            go_simp
            try with_reducible rfl
          try simp only [Act.put, setIfInBounds_toArray, set_cons_zero, set_cons_succ]
          refine carryP (i := 8) rfl (by kernel_rfl) (by rfl) (fun K hK => ?_)
          go_simp
          refine hK.out _ _ ?_ (fun hHeld => ?_)
          · first | exact ⟨e2, b0⟩ | exact ⟨by go_simp, by go_simp⟩
          clear hK K
          try simp only [Act.put, setIfInBounds_toArray, set_cons_zero, set_cons_succ]
          refine wpAnyH_done (by kernel_rfl) ?_ _
          go_wp2_with fail
          exact ⟨⟨k + 1, by omega, by go_num, HD9.out, HF9.out⟩, by simp [intOf]; omega⟩
    · obtain rfl : k = mn := by omega
      have hD9 := hDr.crashEnd
      have HD9 := Lib.hid (show DiskAt _ base ok p (D.crash ps) from ⟨_, _, _, _, by
        have e : ({ crashTo D ps k with loose := [], fails := -1 } : Dk) = D.crash ps := by
          unfold crashTo Dk.crash
          rw [show k = min D.loose.length ps.length by rw [HMM.out, hpl, HMN.out], crashed_take_all]
        rw [e] at hD9
        exact hD9⟩)
      have HF9 := Lib.hid ((hFr.set hDr.okp 3 (.slice none 0 0)).set hDr.okp 4 (.int .i64 (-1)))
      obtain ⟨_, _, _, e3, e4, _⟩ := hDr.blk.cells
      have z3 := hDr.blk.free 3
      have z4 := hDr.blk.free 4
      clear hD9 hDr hFr
      go_wp2_with fail
      go_end0
      exact ⟨rfl, HD9.out, HF9.out⟩
end Go.Proofs.Ythijobbhpbklmaa

namespace Go.Proofs.Ythijobbhpbklmaa
open Go.RowKit
def fullTo (size : Nat) (b : List UInt8) (k : Nat) : List UInt8 := (List.range size).map fun i => if i < k then b.getD (i % b.length) 0 else 0
def fullB (size : Nat) (b : List UInt8) : List UInt8 := fullTo size b size
theorem fullTo_length (size : Nat) (b : List UInt8) (k : Nat) : (fullTo size b k).length = size := by simp [fullTo]
theorem fullTo_zero (size : Nat) (b : List UInt8) : fullTo size b 0 = List.replicate size 0 := by
  unfold fullTo
  apply List.ext_getElem?
  intro i
  by_cases h : i < size
  · simp [List.getElem?_range h, List.getElem?_replicate, h]
  · rw [List.getElem?_eq_none (by simp; omega), List.getElem?_eq_none (by simp; omega)]
theorem fullTo_succ (size : Nat) (b : List UInt8) (k : Nat) {x : UInt8} (hx : b[k % b.length]? = some x) : (fullTo size b k).set k x = fullTo size b (k + 1) := by
  apply List.ext_getElem?
  intro i
  by_cases h : i < size
  · by_cases e : k = i
    · subst e
      rw [List.getElem?_set_self (by rw [fullTo_length]; exact h)]
      simp [fullTo, List.getElem?_range h, List.getD, hx]
    · rw [List.getElem?_set_ne e]
      have : (i < k + 1) ↔ i < k := by omega
      simp [fullTo, List.getElem?_range h, this]
  · rw [List.getElem?_eq_none (by simp [fullTo]; omega), List.getElem?_eq_none (by simp [fullTo]; omega)]
theorem fullB_length (size : Nat) (b : List UInt8) : (fullB size b).length = size := fullTo_length _ _ _
theorem fullB_get (size : Nat) (b : List UInt8) {i : Nat} (h : i < size) : (fullB size b)[i]? = some (b.getD (i % b.length) 0) := by simp [fullB, fullTo, List.getElem?_range h, h]
theorem fullB_one (size : Nat) (x : UInt8) : fullB size [x] = List.replicate size x := by
  apply List.ext_getElem?
  intro i
  by_cases h : i < size
  · rw [fullB_get _ _ h, List.getElem?_replicate, if_pos h]
    simp [Nat.mod_one]
  · rw [List.getElem?_eq_none (by rw [fullB_length]; omega), List.getElem?_eq_none (by simp; omega)]
set_option maxRecDepth 100000 in
theorem full_is (w : World) (size : Nat) (h0 : 0 < size) (h1 : size ≤ 1000000) (B : Nat) (A : Option Addr) (n c : Nat) (b : List UInt8) (hb : Sl w B A n c b) (hB : B ≤ w.heap.size) (hn : 0 < n) (hn2 : n ≤ 9223372036854775807) :
    Calls Try.prog 22 #[.int .i64 (size : Int), .slice A n c, .bool false] w fun e w' => e = .returned (.slice (some ⟨w.heap.size, 0, none⟩) size size) ∧ RowB w' w.heap.size (fullB size b) ∧ Below w.heap.size w w' := by
  have hd0 : decide (0 < n) = true := decide_eq_true hn
  have hd0' : decide ((0 : Int) < (n : Int)) = true := decide_eq_true (by omega)
  have hlen := hb.len
  have HB := Lib.hid hb
  clear hb
  go_enter Try.func22, Try.ntmps22
  go_wp2_with (first | (at_make; refine wpList_make_bytesN _ rfl _ _ _ rfl Try.underlying30 info_u8 _ _ _ rfl rfl size rfl (by omega) ?_; intro w2 hr2 hb2))
  go_loopw [8] (fun i wr => ∃ k : Nat, k ≤ size ∧ i = .int .i64 (k : Int) ∧ RowB wr w.heap.size (fullTo size b k) ∧ Below w.heap.size w wr) (fun i _ => size - (intOf i).toNat)
  case atStart => exact ⟨0, Nat.zero_le _, rfl, by rw [fullTo_zero]; exact hr2, hb2⟩
  case round =>
    obtain ⟨k, hk, rfl, hr, hbw⟩ := hrel
    by_cases hlt : k < size
    · have hd1 : decide (k < size) = true := decide_eq_true hlt
      have hd1' : decide ((k : Int) < (size : Int)) = true := decide_eq_true (by omega)
      have hm : k % n < n := Nat.mod_lt _ hn
      obtain ⟨ad, x, rfl, hx, hxc⟩ : ∃ ad x, A = some ad ∧ b[k % n]? = some x ∧ wr.cell? (ad.add (k % n)) = some (.int .u8 (x.toNat : Int)) := by
        obtain ⟨ad, u, ea, hb', hu, hc⟩ := (HB.out.below (Below.mono hbw hB)).reads.at_ hm
        simp only [bv, List.getElem?_map, Option.map_eq_some_iff] at hu
        obtain ⟨q, hq, rfl⟩ := hu
        exact ⟨ad, q, ea, hq, hc⟩
      have htm : (k : Int).tmod (n : Int) = ((k % n : Nat) : Int) := by rw [Int.tmod_eq_emod_of_nonneg (by omega)]; rfl
      have hnz : ¬ (n : Int) = 0 := by omega
      have hgl := fullTo_length size b k
      obtain ⟨y, hy⟩ : ∃ y, (fullTo size b k)[k]? = some y := ⟨_, List.getElem?_eq_getElem (by rw [hgl]; exact hlt)⟩
      have hyc := hr.cell hy
      have hyf := hr.frozen k
      have hr9 := hr.set_ k x
      rw [fullTo_succ size b k (by rw [hlen]; exact hx)] at hr9
      have HR9 := Lib.hid hr9
      have hb9 := hbw.setCell (p := ⟨w.heap.size, k, none⟩) (Nat.le_refl _) (.int .u8 (x.toNat : Int))
      have HB9 := Lib.hid hb9
      clear hr hr9 hb9 hy hgl hx
      go_wp2_with fail
      exact ⟨⟨k + 1, by omega, by go_num, HR9.out, HB9.out⟩, by simp [intOf]; omega⟩
    · obtain rfl : k = size := by omega
      go_wp2_with fail
      go_ret
      exact ⟨rfl, hr, hbw⟩
end Go.Proofs.Ythijobbhpbklmaa

namespace Go.Proofs.Ythijobbhpbklmaa
open Go.RowKit
theorem MB.fr {w w' : World} {g : Nat} {l : List UInt8} {ok : Nat → Prop} (h : MB w g l) (hF : Fr ok w w') (hg : ¬ ok g) : MB w' g l := by
  have hb := hF.2.2.2.2 g h.1 hg
  refine ⟨Nat.lt_of_lt_of_le h.1 hF.size, fun i b hi => ⟨(show w'.cell? ⟨g, i, none⟩ = w.cell? ⟨g, i, none⟩ from World.cell?_of_block hb).trans (h.2 i b hi).1, ?_⟩⟩
  have := (h.2 i b hi).2
  unfold World.frozen? at this ⊢
  rw [show w'.heap[(⟨g, i, none⟩ : Addr).block]? = w.heap[(⟨g, i, none⟩ : Addr).block]? from hb]
  exact this
theorem mixed_get (pk : UInt8) (old new : List UInt8) {i T : Nat} (hT : old.length = T * 128) (h : i < old.length) : (mixed pk old new)[i]? = some (if pickB pk i = true then new.getD i 0 else old.getD i 0) := by
  have e : i < old.length / 128 * 128 := by rw [hT, Nat.mul_div_cancel _ (by omega), ← hT]; exact h
  simp [mixed, mixTo, List.getElem?_range h, e]
theorem DiskAt.out_ {w : World} {base p : Nat} {ok : Nat → Prop} {D : Dk} (h : DiskAt w base ok p D) (o : Obj) : DiskAt (w.alloc o) base (fun k => ok k ∧ k ≠ w.heap.size) p D :=
  h.other fun k hk ho => ⟨Below.heap_alloc w o k hk, ho, by omega⟩
def aD1 : Dk := dNew 512 4
def aD2 : Dk := aD1.count.grown 2
def aD3 : Dk := aD2.count.written 1 (fullB 512 [7])
def aD4 : Dk := aD3.count
def aD5 : Dk := aD4.crash [2]
def aD6 : Dk := aD5.count
theorem aw3 (x z : List UInt8) : lookIn ([] ++ [(1, x)]) 1 z = x := rfl
theorem aw5 (z x : List UInt8) : lookIn [] 1 ((crashed [z, z] [(1, x)] [2]).getD 1 []) = mixed 2 z x := rfl
theorem aD4_good : aD4.good = [zeros 512, zeros 512] := rfl
theorem aD4_loose : aD4.loose = [(1, fullB 512 [7])] := rfl
theorem aD3_look : aD3.look 1 = fullB 512 [7] := aw3 _ _
theorem aD5_look : aD5.look 1 = mixed 2 (zeros 512) (fullB 512 [7]) := by
  unfold aD5 Dk.crash Dk.look
  rw [aD4_good, aD4_loose]
  exact aw5 (zeros 512) (fullB 512 [7])
theorem aw_get (i : Nat) (h : i < 512) : (fullB 512 [7])[i]? = some 7 := by
  rw [fullB_one, List.getElem?_replicate, if_pos h]
theorem aw_mix (i : Nat) (h : i < 512) : (mixed 2 (zeros 512) (fullB 512 [7]))[i]? = some (if pickB 2 i = true then 7 else 0) := by
  rw [mixed_get 2 (zeros 512) _ (T := 4) (by rw [zeros_length]) (by rw [zeros_length]; exact h)]
  have e : (fullB 512 [7]).getD i 0 = 7 := by rw [List.getD, aw_get i h]; rfl
  have e2 : (zeros 512).getD i 0 = 0 := by
    unfold zeros
    rw [List.getD, List.getElem?_replicate, if_pos h]; rfl
  rw [e, e2]
set_option maxRecDepth 100000 in
set_option maxHeartbeats 1000000 in
theorem awake03 (w : World) : Calls Try.prog 14 #[] w fun e w' => e = .returned (.bool true) ∧ Below w.heap.size w w' := by
  obtain ⟨p, hp⟩ : ∃ p, w.heap.size = p := ⟨_, rfl⟩
  have hnew := dnew_is w 512 4 (by unfold NewOk; omega) p (fun k => p ≤ k) (by omega) (by show p ≤ w.heap.size; omega)
  rw [hp] at hnew ⊢
  go_enter Try.func14, Try.ntmps14
  go_wp2_with fail
  refine hnew.mono ?_
  rintro e w1 ⟨rfl, hD1, hb1⟩
  clear hnew
  have hz1 := hb1.size
  rw [hp] at hz1
  go_wp2_with fail
  have hgrow := dgrow_any (D := aD1) hD1 (fun k hk => Nat.le_trans hz1 hk) hz1 (by decide) 2 (by omega)
  refine hgrow.mono ?_
  rintro e w2 hG2
  obtain ⟨rfl, hD2, hF2⟩ : e = .returned (.int .i64 0) ∧ DiskAt w2 p (fun k => p ≤ k) p aD2 ∧ Fr (fun k => p ≤ k) w1 w2 := by
    rcases hG2 with ⟨h, _⟩ | ⟨_, h, _⟩ | ⟨_, _, h, _⟩ | ⟨_, _, _, h1, h2, h3⟩
    · exact absurd h (by decide)
    · exact absurd h (by decide)
    · exact absurd h (by decide)
    · exact ⟨h1, h2, h3⟩
  clear hG2 hgrow
  have hb2 := hb1.trans (hF2.below (by omega) (fun k hk => by show ¬ p ≤ k; omega))
  have hz2 := hF2.size
  clear hF2
  go_wp2_with fail
  have hsl := Sl.lit w2 [7] #[.int .u8 7] rfl 1 rfl (0, 0)
  have hb3 : Below p w (w2.alloc (.cells #[.int .u8 7] 5)) := hb2.alloc (by omega) _
  have hD3 := hD2.below ((Below.refl _ w2).alloc (Nat.le_refl _) (.cells #[.int .u8 7] 5))
  have hz3 : w2.heap.size + 1 ≤ (w2.alloc (.cells #[.int .u8 7] 5)).heap.size := by simp
  clear hD2 hD1
  generalize w2.alloc (.cells #[.int .u8 7] 5) = w3 at hsl hb3 hD3 hz3 ⊢
  refine (full_is w3 512 (by omega) (by omega) _ _ _ _ _ hsl (by omega) (by omega) (by omega)).mono ?_
  rintro e w4 ⟨rfl, hr4, hb4⟩
  have hD4 := hD3.below hb4
  have hz4 := hb4.size
  have hb4' := hb3.trans (hb4.mono (by omega))
  clear hsl hD3 hb4 hb3
  go_wp2_with fail
  refine (dwrite_any (D := aD2) hD4 (fun k hk => by show p ≤ k; omega) (by omega) (by decide) (by decide) 1 _ _ _ _ _ (hr4.slN (n := 512) (fullB_length _ _) (by omega)) (fun ad e => by
    injection e with e
    subst e
    exact ⟨by show w3.heap.size ≠ p; omega, hr4.lt⟩) (by omega)).mono ?_
  rintro e w5 hW5
  obtain ⟨rfl, hD5, hF5⟩ : e = .returned (.int .i64 0) ∧ DiskAt w5 p (fun k => p ≤ k) p aD3 ∧ Fr (fun k => p ≤ k) w4 w5 := by
    rcases hW5 with ⟨h, _⟩ | ⟨_, h, _⟩ | ⟨_, _, h, _⟩ | ⟨_, _, _, h1, h2, h3⟩
    · exact absurd (by decide) h
    · exact absurd (fullB_length _ _) h
    · exact absurd h (by decide)
    · exact ⟨h1, h2, h3⟩
  clear hW5 hD4 hr4
  have hb5 := hb4'.trans (hF5.below (by omega) (fun k hk => by show ¬ p ≤ k; omega))
  have hz5 := hF5.size
  clear hF5 hb4'
  go_wp2_with fail
  refine (dread_any (D := aD3) hD5 (fun k hk => by show p ≤ k; omega) (by omega) (by decide) (by decide) 1).mono ?_
  rintro e w6 hR6
  obtain ⟨g, c6, rfl, hc6, hg6, hM6, hD6, hF6⟩ : ∃ g c, e = .returned (.tuple #[.slice (some ⟨g, 0, none⟩) 512 c, .int .i64 0]) ∧ 512 ≤ c ∧ w5.heap.size ≤ g ∧ MB w6 g (fullB 512 [7]) ∧ DiskAt w6 p (fun k => p ≤ k ∧ k ≠ g) p aD4 ∧ Fr (fun k => p ≤ k) w5 w6 := by
    rcases hR6 with ⟨h, _⟩ | ⟨_, h, _⟩ | ⟨_, _, g, c, h1, h2, h3, h4, _, h5, h6⟩
    · exact absurd (by decide) h
    · exact absurd h (by decide)
    · exact ⟨g, c, h1, h2, h3, by rw [← aD3_look]; exact h4, h5, h6⟩
  clear hR6 hD5
  have hb6 := hb5.trans (hF6.below (by omega) (fun k hk => by show ¬ p ≤ k; omega))
  have hz6 := hF6.size
  have hgz := hM6.1
  clear hF6
  go_wp2_with fail
  have hsl := Sl.lit w6 [2] #[.int .u8 2] rfl 1 rfl (0, 0)
  have hb7 : Below p w (w6.alloc (.cells #[.int .u8 2] 5)) := hb6.alloc (by omega) _
  have hD7 := hD6.out_ (.cells #[.int .u8 2] 5)
  have hM7 := hM6.below ((Below.refl _ w6).alloc (Nat.le_refl _) (.cells #[.int .u8 2] 5)) hgz
  have HZ7 := Lib.hid (show (w6.alloc (.cells #[.int .u8 2] 5)).heap.size = w6.heap.size + 1 by simp)
  have hz7 : w6.heap.size + 1 ≤ (w6.alloc (.cells #[.int .u8 2] 5)).heap.size := by simp
  clear hD6 hM6
  generalize w6.alloc (.cells #[.int .u8 2] 5) = w7 at hsl hb7 hD7 hz7 HZ7 hM7 ⊢
  refine (dcrash_any (D := aD4) hD7 (fun k hk => by show (p ≤ k ∧ k ≠ g) ∧ k ≠ w6.heap.size; omega) (by omega) (by decide) _ _ _ _ (by rw [← HZ7.out] at hsl; exact hsl) (fun _ ad e => by
    injection e with e
    subst e
    exact fun h => h.2 rfl)).mono ?_
  rintro e w8 ⟨rfl, hD8, hF8⟩
  have hM8 := hM7.fr hF8 (fun h => h.1.2 rfl)
  have hb8 := hb7.trans (hF8.below (by omega) (fun k hk => by show ¬ ((p ≤ k ∧ k ≠ g) ∧ k ≠ w6.heap.size); omega))
  have hz8 := hF8.size
  clear hF8 hD7 hM7 hsl
  go_wp2_with fail
  refine (dread_any (D := aD5) hD8 (fun k hk => by show (p ≤ k ∧ k ≠ g) ∧ k ≠ w6.heap.size; omega) (by omega) (by decide) (by decide) 1).mono ?_
  rintro e w9 hR9
  obtain ⟨q, c9, rfl, hc9, hg9, hM9, hD9, hF9⟩ : ∃ g' c, e = .returned (.tuple #[.slice (some ⟨g', 0, none⟩) 512 c, .int .i64 0]) ∧ 512 ≤ c ∧ w8.heap.size ≤ g' ∧ MB w9 g' (mixed 2 (zeros 512) (fullB 512 [7])) ∧ DiskAt w9 p (fun k => ((p ≤ k ∧ k ≠ g) ∧ k ≠ w6.heap.size) ∧ k ≠ g') p aD6 ∧ Fr (fun k => (p ≤ k ∧ k ≠ g) ∧ k ≠ w6.heap.size) w8 w9 := by
    rcases hR9 with ⟨h, _⟩ | ⟨_, h, _⟩ | ⟨_, _, g, c, h1, h2, h3, h4, _, h5, h6⟩
    · exact absurd (by decide) h
    · exact absurd h (by decide)
    · exact ⟨g, c, h1, h2, h3, by rw [← aD5_look]; exact h4, h5, h6⟩
  have hM9' := hM8.fr hF9 (fun h => h.1.2 rfl)
  have hb9 := hb8.trans (hF9.below (by omega) (fun k hk => by show ¬ ((p ≤ k ∧ k ≠ g) ∧ k ≠ w6.heap.size); omega))
  have hlo := dloose_any hD9
  have hca := dcalls_any hD9
  have c511 : w9.cell? ⟨g, 511, none⟩ = some (.int .u8 7) := (hM9'.2 511 7 (aw_get 511 (by omega))).1
  have c127 : w9.cell? ⟨q, 127, none⟩ = some (.int .u8 0) := (hM9.2 127 0 ((aw_mix 127 (by omega)).trans (by decide))).1
  have c128 : w9.cell? ⟨q, 128, none⟩ = some (.int .u8 7) := (hM9.2 128 7 ((aw_mix 128 (by omega)).trans (by decide))).1
  have c255 : w9.cell? ⟨q, 255, none⟩ = some (.int .u8 7) := (hM9.2 255 7 ((aw_mix 255 (by omega)).trans (by decide))).1
  have c256 : w9.cell? ⟨q, 256, none⟩ = some (.int .u8 0) := (hM9.2 256 0 ((aw_mix 256 (by omega)).trans (by decide))).1
  have hlo : Calls Try.prog 26 #[.pointer (some ⟨p, 0, none⟩)] w9 fun e w' => e = .returned (.int .i64 0) ∧ w9 = w' := hlo
  have hca : Calls Try.prog 20 #[.pointer (some ⟨p, 0, none⟩)] w9 fun e w' => e = .returned (.int .i64 4) ∧ w9 = w' := hca
  clear hR9 hD8 hM8 hM9 hM9' hD9 hF9 hb8 hb7 hb6 hb5 hb2 hb1
  go_wp2_with (first | (go_at_call 26; refine hlo.mono ?_; rintro e w' ⟨rfl, rfl⟩) | (go_at_call 20; refine hca.mono ?_; rintro e w' ⟨rfl, rfl⟩))
  go_ret
  exact ⟨rfl, hb9⟩
end Go.Proofs.Ythijobbhpbklmaa

namespace Go.Proofs.Ythijobbhpbklmaa
open Go.RowKit
theorem nfail (w : World) : Calls Try.prog 27 #[.pointer none, .int .i64 1] w fun e w' => e = .returned (.tuple #[]) ∧ w = w' := by
  go_enter Try.func27, Try.ntmps27
  go_wp2_with fail
  go_end0
  exact ⟨rfl, rfl⟩
theorem ncrash (w : World) : Calls Try.prog 24 #[.pointer none, .slice none 0 0] w fun e w' => e = .returned (.tuple #[]) ∧ w = w' := by
  go_enter Try.func24, Try.ntmps24
  go_wp2_with fail
  exact bodyPost_ret (results_none rfl _ _ _) rfl ⟨rfl, rfl⟩
theorem nread (w : World) : Calls Try.prog 25 #[.pointer none, .int .i64 0] w fun e w' => e = .returned (.tuple #[.slice none 0 0, .int .i64 1]) ∧ w = w' := by
  go_enter Try.func25, Try.ntmps25
  go_wp2_with fail
  go_ret2
  exact ⟨rfl, rfl⟩
theorem nwrite (w : World) : Calls Try.prog 21 #[.pointer none, .int .i64 0, .slice none 0 0] w fun e w' => e = .returned (.int .i64 1) ∧ w = w' := by
  go_enter Try.func21, Try.ntmps21
  go_wp2_with fail
  go_ret
  exact ⟨rfl, rfl⟩
theorem nsync (w : World) : Calls Try.prog 23 #[.pointer none] w fun e w' => e = .returned (.int .i64 1) ∧ w = w' := by
  go_enter Try.func23, Try.ntmps23
  go_wp2_with fail
  go_ret
  exact ⟨rfl, rfl⟩
theorem ngrow (w : World) : Calls Try.prog 16 #[.pointer none, .int .i64 1] w fun e w' => e = .returned (.int .i64 1) ∧ w = w' := by
  go_enter Try.func16, Try.ntmps16
  go_wp2_with fail
  go_ret
  exact ⟨rfl, rfl⟩
theorem nlen (w : World) : Calls Try.prog 19 #[.pointer none] w fun e w' => e = .returned (.int .i64 0) ∧ w = w' := by
  go_enter Try.func19, Try.ntmps19
  go_wp2_with fail
  go_ret
  exact ⟨rfl, rfl⟩
theorem nloose (w : World) : Calls Try.prog 26 #[.pointer none] w fun e w' => e = .returned (.int .i64 0) ∧ w = w' := by
  go_enter Try.func26, Try.ntmps26
  go_wp2_with fail
  go_ret
  exact ⟨rfl, rfl⟩
theorem nsize (w : World) : Calls Try.prog 17 #[.pointer none] w fun e w' => e = .returned (.int .i64 0) ∧ w = w' := by
  go_enter Try.func17, Try.ntmps17
  go_wp2_with fail
  go_ret
  exact ⟨rfl, rfl⟩
theorem nlimit (w : World) : Calls Try.prog 18 #[.pointer none] w fun e w' => e = .returned (.int .i64 0) ∧ w = w' := by
  go_enter Try.func18, Try.ntmps18
  go_wp2_with fail
  go_ret
  exact ⟨rfl, rfl⟩
theorem ncalls (w : World) : Calls Try.prog 20 #[.pointer none] w fun e w' => e = .returned (.int .i64 0) ∧ w = w' := by
  go_enter Try.func20, Try.ntmps20
  go_wp2_with fail
  go_ret
  exact ⟨rfl, rfl⟩
/-! full of no bytes -/
theorem fullB_nil (size : Nat) : fullB size [] = List.replicate size 0 := by
  apply List.ext_getElem?
  intro i
  by_cases h : i < size
  · rw [fullB_get _ _ h, List.getElem?_replicate, if_pos h]
    rfl
  · rw [List.getElem?_eq_none (by rw [fullB_length]; omega), List.getElem?_eq_none (by rw [List.length_replicate]; omega)]
set_option maxRecDepth 100000 in
theorem full_none (w : World) (size : Nat) (h0 : 0 < size) (h1 : size ≤ 1000000) (A : Option Addr) (c : Nat) :
    Calls Try.prog 22 #[.int .i64 (size : Int), .slice A 0 c, .bool false] w fun e w' => e = .returned (.slice (some ⟨w.heap.size, 0, none⟩) size size) ∧ RowB w' w.heap.size (fullB size []) ∧ Below w.heap.size w w' := by
  have hd1 : decide (0 < size) = true := decide_eq_true h0
  have hd1' : decide ((0 : Int) < (size : Int)) = true := decide_eq_true (by omega)
  go_enter Try.func22, Try.ntmps22
  go_wp2_with (first | (at_make; refine wpList_make_bytesN _ rfl _ _ _ rfl Try.underlying30 info_u8 _ _ _ rfl rfl size rfl (by omega) ?_; intro w2 hr2 hb2))
  go_loopw [8] (fun i wr => i = .int .i64 0 ∧ wr = w2) (fun i _ => 0)
  case atStart => exact ⟨rfl, rfl⟩
  case round =>
    obtain ⟨rfl, rfl⟩ := hrel
    go_wp2_with fail
    go_ret
    exact ⟨rfl, by rw [fullB_nil]; exact hr2, hb2⟩
end Go.Proofs.Ythijobbhpbklmaa
