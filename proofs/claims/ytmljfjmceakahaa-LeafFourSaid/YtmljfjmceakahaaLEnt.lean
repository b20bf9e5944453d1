/- Layer 4's helper entries. -/
import Derived.Test.YtmljfjmceakahaaLEntP
import Derived.Test.YtmljfjmceakahaaRegion
import Derived.Deep.DeepCutAuto
namespace Go.Proofs.Ytmljfjmceakahaa
open Go.RowKit
set_option linter.unusedVariables false
set_option linter.unusedSimpArgs false

def LFs (es : List LE) : Prop := ∀ e ∈ es, e.key.length ≤ 120 ∧ e.val.length ≤ 600
/-- What entries gives. -/
def LEntP (sb : Bool) (w : World) (r : Ending) (w' : World) : Prop :=
  ∃ (es : List LE) (Al : Option Addr) (cl : Nat) (Aw : Option Addr) (cw : Nat), r = .returned (.tuple #[.slice Al es.length cl, .slice Aw es.length cw]) ∧ es.length ≤ 30 ∧ LOkL es ∧ LFs es ∧ (sb = true → LStrict es) ∧ es.length ≤ cl ∧
    LEnts w' w'.heap.size Al es.length es ∧ RLEnts w' w'.heap.size Aw es.length es ∧ Below w.heap.size w w'
/-- What the first call and the test tell: where x is put in, or that it isn't. -/
def LAtP (es : List LE) (e : LE) (sb : Bool) (a : Nat) (is : Bool) : Prop :=
  a ≤ es.length ∧ (is = false → sb = true → LStrict es → LStrict (es.take a ++ [e] ++ es.drop a))

set_option maxRecDepth 100000 in
set_option maxHeartbeats 4000000 in
theorem lentries_any (w : World) (B : Nat) (A : Option Addr) (n c : Nat) (rs : List LE) (h : LEnts w B A n rs) (hBw : B ≤ w.heap.size) (hn : n ≤ 30) (hk : LFs rs) (sb : Bool) :
    Calls Try.prog 28 #[.slice A n c, .bool sb] w (LEntP sb w) := by
  obtain ⟨ie, ei0, ez0, ez1, ez2⟩ := info_parts info_le
  obtain ⟨ib, bi0, bz0, bz1, bz2⟩ := info_parts info_lent
  go_enter Try.func28, Try.ntmps28
  go_wp2_with fail
  go_loopw [7, 8] (fun v i wr => ∃ (k : Nat) (es : List LE) (Av : Option Addr) (cv m : Nat), i = .int .i64 (k : Int) ∧ k ≤ n ∧ v = .slice Av m cv ∧ es.length = m ∧ m ≤ k ∧ wr.ownsRow w.heap.size 73 4 (.slice Av m cv) m (LCs es) ∧ LOkL es ∧ LFs es ∧ (sb = true → LStrict es) ∧ Below w.heap.size w wr) (fun _ i _ => n - (intOf i).toNat)
  case atStart => exact ⟨0, [], none, 0, 0, rfl, Nat.zero_le _, rfl, rfl, Nat.le_refl _, World.ownsRow_nil _ _ _ _, by simp [LOkL], by simp [LFs], fun _ i j a b _ h => by simp at h, Below.refl _ _⟩
  case round =>
    obtain ⟨k, es, Av, cv, m, rfl, hkn, rfl, hm, hmk, hown, hokl, hfs, hstr, hbw⟩ := hrel
    have HM := Lib.hid hm
    have HSTR := Lib.hid hstr
    clear hm hstr
    by_cases hlt : k < n
    · have hbs := hbw.size
      obtain ⟨e, ad, Ak, nk, ck, Ax, nx, cx, he, ho, rfl, hl⟩ := (h.below (hbw.mono hBw)).at_ hlt
      have hke := hk _ (List.mem_of_getElem? he)
      have hKS : ∀ w' : World, Below B wr w' → w'.cell? (ad.add (k * 4)) = some (.slice Ak nk ck) ∧ w'.cell? ⟨(ad.add (k * 4)).block, (ad.add (k * 4)).off + 1, none⟩ = some (.slice Ax nx cx) ∧ w'.cell? ⟨(ad.add (k * 4)).block, (ad.add (k * 4)).off + 2, none⟩ = some (.int .i64 e.long) ∧ w'.cell? ⟨(ad.add (k * 4)).block, (ad.add (k * 4)).off + 3, none⟩ = some (.int .u32 (e.first : Int)) ∧ (convert 23 9 (.slice Ak nk ck)).run Try.prog w' = .ok (.string ⟨e.key.toArray⟩) w' ∧ (convert 23 9 (.slice Ax nx cx)).run Try.prog w' = .ok (.string ⟨e.val.toArray⟩) w' := fun w' hw' =>
        ⟨(hl.below hw').cells.1, (hl.below hw').cells.2.1, (hl.below hw').cells.2.2.1, (hl.below hw').cells.2.2.2, string_of_sl (P := Try.prog) Try.underlying23 Try.underlying5 Try.underlying9 (hl.below hw').2.2.2.2.2.1, string_of_sl (P := Try.prog) Try.underlying23 Try.underlying5 Try.underlying9 (hl.below hw').2.2.2.2.2.2⟩
      have hBq : B ≤ wr.heap.size := Nat.le_trans hBw hbs
      have HKS := Lib.hid hKS
      have HE := Lib.hid he
      clear hKS he hl
      go_wp2_with fail
      go_region_held3 (fun w' => w'.cell? (ad.add (k * 4)) = some (.slice Ak nk ck) ∧ w'.cell? ⟨(ad.add (k * 4)).block, (ad.add (k * 4)).off + 1, none⟩ = some (.slice Ax nx cx) ∧ w'.cell? ⟨(ad.add (k * 4)).block, (ad.add (k * 4)).off + 2, none⟩ = some (.int .i64 e.long) ∧ w'.cell? ⟨(ad.add (k * 4)).block, (ad.add (k * 4)).off + 3, none⟩ = some (.int .u32 (e.first : Int)) ∧ (convert 23 9 (.slice Ak nk ck)).run Try.prog w' = .ok (.string ⟨e.key.toArray⟩) w' ∧ (convert 23 9 (.slice Ax nx cx)).run Try.prog w' = .ok (.string ⟨e.val.toArray⟩) w') (first | exact HKS.out _ (Below.refl _ _).drew | exact HKS.out _ ((Below.refl _ _).alloc hBq _).drew | exact HKS.out _ (((Below.refl _ _).alloc hBq _).setCell (by simp; omega) _).drew) (fail)
      have hbox0 : ((wr.alloc (rObj e ⟨e.key.toArray⟩ ⟨e.val.toArray⟩)).drew).heap[wr.heap.size]? = some (rObj e (st e.key) (st e.val)) := heap_alloc_new wr _
      have hb0 : Below w.heap.size w (wr.alloc (rObj e ⟨e.key.toArray⟩ ⟨e.val.toArray⟩)).drew := (hbw.alloc hbs _).drew
      have ho0 : ((wr.alloc (rObj e ⟨e.key.toArray⟩ ⟨e.val.toArray⟩)).drew).ownsRow w.heap.size 73 4 (.slice Av m cv) m (LCs es) := hown.alloc _
      have hql : wr.heap.size < ((wr.alloc (rObj e ⟨e.key.toArray⟩ ⟨e.val.toArray⟩)).drew).heap.size := by simp
      have hE0 : RLEnts ((wr.alloc (rObj e ⟨e.key.toArray⟩ ⟨e.val.toArray⟩)).drew) wr.heap.size Av m es := (rlents_own hown hokl).below (((Below.refl _ _).alloc (Nat.le_refl _) _).drew)
      obtain ⟨q, hq⟩ : ∃ q, wr.heap.size = q := ⟨_, rfl⟩
      rw [hq] at hbox0 hql hE0
      go_upto_region 7 with fail
      rw [hq]
      generalize (wr.alloc (rObj e ⟨e.key.toArray⟩ ⟨e.val.toArray⟩)).drew = W at hbox0 hb0 ho0 hql hE0 ⊢
      clear hq hown hbw HKS
      obtain ⟨P, hP1, hP2, hP3⟩ := first_ex es e.key
      rw [HM.out] at hP1 hP3
      have hfind := rlfind_is W q Av m cv es hE0 (by omega) (by omega) e.key P hP1 hP2 hP3
      have hdis : ∀ is : Bool, is = decide (P < m ∧ lRk es e.key P = 0) → LAtP es e sb P is := fun is his => ⟨by rw [HM.out]; exact hP1, fun hf _ hst => hst.insert (by rw [HM.out]; exact hP1) hP2 (fun hlt' => by
        rw [HM.out] at hlt'
        have h3 := hP3 hlt'
        rw [hf] at his
        have := of_decide_eq_false his.symm
        have h4 : ¬ lRk es e.key P = 0 := fun h => this ⟨hlt', h⟩
        omega)⟩
      have hdun : sb = false → LAtP es e sb m false := fun hs => ⟨by rw [HM.out]; exact Nat.le_refl _, fun _ h => by rw [hs] at h; cases h⟩
      obtain ⟨is0, his0⟩ : ∃ is0, decide (P < m ∧ lRk es e.key P = 0) = is0 := ⟨_, rfl⟩
      rw [his0] at hfind
      have HD := Lib.hid (hdis is0 his0.symm)
      have HU := Lib.hid hdun
      have hx0 := (cell4 hbox0).1
      clear hdis hdun hP2 hP3 his0 hE0
      go_wp2_with fail
      refine hfind.mono ?_
      rintro r wf ⟨rfl, hbf⟩
      have hboxf := blk_below hbox0 hbf hql
      have hb1 := hb0.trans (hbf.mono hb0.size)
      have ho1 := own_below ho0 hbf (Nat.le_refl _)
      have hqf : q < wf.heap.size := Nat.lt_of_lt_of_le hql hbf.size
      clear hfind hx0 hbox0 hb0 ho0 hql hbf
      go_upto_if 52 with fail
      go_cut [9, 10, 11] (fun s9 s10 s11 W' => ∃ (a : Nat) (is : Bool), s9 = .pointer (some ⟨q, 0, none⟩) ∧ s10 = .int .i64 (a : Int) ∧ s11 = .bool is ∧ a ≤ m ∧ Hid (LAtP es e sb a is) ∧ W' = wf)
      case first =>
        cases sb with
        | true =>
          go_wp2_with fail
          go_meet
          exact ⟨P, is0, rfl, rfl, rfl, hP1, HD, rfl⟩
        | false =>
          go_wp2_with fail
          go_meet
          exact ⟨m, false, rfl, rfl, rfl, Nat.le_refl _, Lib.hid (by first | exact HU.out rfl | exact HU.out trivial), rfl⟩
      case rest =>
        obtain ⟨a, is, rfl, rfl, rfl, ham, HA, rfl⟩ := hcut
        cases is with
        | true =>
          go_wp2_with fail
          refine ⟨⟨k + 1, es, Av, cv, m, by go_num, by omega, rfl, HM.out, by omega, ho1, hokl, hfs, HSTR.out, hb1⟩, by simp [intOf]; omega⟩
        | false =>
          obtain ⟨wi, rfl⟩ : ∃ wi : World, wi = wc := ⟨_, rfl⟩
          have hE1 := rlents_own ho1 hokl
          have hm30 : m ≤ 30 := by omega
          go_wp2_with fail
          go_loopw [12, 13] (fun v i wr => ∃ (j : Nat) (A2 : Option Addr) (c2 n2 : Nat), i = .int .i64 (j : Int) ∧ j ≤ m ∧ v = .slice A2 n2 c2 ∧ n2 ≤ j + 1 ∧ wr.ownsRow wi.heap.size 73 4 (.slice A2 n2 c2) n2 (LCs (lIns es e a j)) ∧ Below wi.heap.size wi wr) (fun _ i _ => m - (intOf i).toNat)
          case atStart => exact ⟨0, none, 0, 0, rfl, Nat.zero_le _, rfl, Nat.zero_le _, by simpa [lIns, LCs] using World.ownsRow_nil wi wi.heap.size 73 4, Below.refl _ _⟩
          case round =>
            obtain ⟨j, A2, c2, n2, rfl, hjm, rfl, hn2, hown2, hbi⟩ := hrel
            obtain ⟨x0, x1, x2, x3⟩ := cell4 (blk_below hboxf hbi hqf)
            by_cases hjlt : j < m
            · obtain ⟨ej, ad2, hej, hoj, rfl, hlj⟩ := (hE1.below hbi).at_ hjlt
              obtain ⟨y0, y1, y2, y3⟩ := hlj.cells
              have HEJ := Lib.hid hej
              clear hej hlj
              by_cases hja : j = a
              · subst hja
                have hjb : ((j : Int) == (j : Int)) = true := by simp
                go_wp2_with (first
                  | (at_builtin; refine wpList_append_any _ rfl (.tmp 65) (.tmp 67) _ rfl wi.heap.size 73 ie _ 4 48 Try.underlying59 ei0 ez0 ez1 ez2 rfl (by omega) (.slice A2 n2 c2) n2 _ rfl (hown2.alloc _) (wr.heap.size + 1) (some ⟨wr.heap.size, 0, none⟩) 1 1 (lRow e) rfl (Reads.four _ _ _ _ _ _) (lRow_one e) (by unfold maxLen; omega) (by omega) (by have := hbi.size; simp; omega) ?_; intro v3 w3 hown3 hg3 hat3; obtain ⟨A3, c3, rfl⟩ := own_slice hown3; have hb3 : Below wi.heap.size wi w3 := (hbi.alloc hbi.size _).grown hg3 (by have := hbi.size; simp; omega) (fun k hk => own_base hown2 k hk); obtain ⟨z0, z1, z2, z3⟩ := cell4 (blk_below hboxf hb3 hqf); clear hg3 hat3 x0 x1 x2 x3 y0 y1 y2 y3; obtain ⟨ej', ad2', hej', _, had2, hlj'⟩ := (hE1.below hb3).at_ hjlt; cases had2; obtain rfl : ej' = ej := Option.some.inj (hej'.symm.trans HEJ.out); obtain ⟨y0, y1, y2, y3⟩ := hlj'.cells; clear hej' hlj')
                  | (at_builtin; refine wpList_append_any _ rfl (.tmp 69) (.tmp 74) _ rfl wi.heap.size 73 ie _ 4 48 Try.underlying59 ei0 ez0 ez1 ez2 rfl (by omega) (.slice A3 (n2 + 1) c3) (n2 + 1) _ rfl (hown3.alloc _) (w3.heap.size + 1) (some ⟨w3.heap.size, 0, none⟩) 1 1 (lRow ej') rfl (Reads.four _ _ _ _ _ _) (lRow_one ej') (by unfold maxLen; omega) (by omega) (by have := hb3.size; simp; omega) ?_; intro v4 w4 hown4 hg4 hat4; obtain ⟨A4, c4, rfl⟩ := own_slice hown4; have hb4 : Below wi.heap.size wi w4 := (hb3.alloc hb3.size _).grown hg4 (by have := hb3.size; simp; omega) (fun k hk => own_base hown3 k hk); clear hg4 hat4))
                refine ⟨⟨j + 1, A4, c4, n2 + 1 + 1, by go_num, hjlt, rfl, ?_, ?_, hb4⟩, by simp [intOf]; omega⟩
                · have h1 := (hown2).1
                  rw [LCs_length] at h1
                  have h2 : (lIns es e j j).length ≤ j := by unfold lIns; rw [if_pos (Nat.le_refl _), List.length_take]; omega
                  omega
                · rw [lIns_eq HEJ.out, LCs_snoc, LCs_snoc]
                  exact hown4
              · have hjb : ((j : Int) == (a : Int)) = false := by simp; omega
                have hlin : LCs (lIns es e a (j + 1)) = LCs (lIns es e a j) ++ lRow ej := by
                  rcases Nat.lt_or_ge j a with h1 | h1
                  · rw [lIns_lt HEJ.out h1, LCs_snoc]
                  · rw [lIns_gt HEJ.out (by omega), LCs_snoc]
                have HLI := Lib.hid hlin
                have hjan : ¬ (j : Int) = (a : Int) := by omega
                clear hlin hja
                go_wp2_with (first
                  | (at_builtin; refine wpList_append_any _ rfl (.tmp 69) (.tmp 74) _ rfl wi.heap.size 73 ie _ 4 48 Try.underlying59 ei0 ez0 ez1 ez2 rfl (by omega) (.slice A2 n2 c2) n2 _ rfl (hown2.alloc _) (wr.heap.size + 1) (some ⟨wr.heap.size, 0, none⟩) 1 1 (lRow ej) rfl (Reads.four _ _ _ _ _ _) (lRow_one ej) (by unfold maxLen; omega) (by omega) (by have := hbi.size; simp; omega) ?_; intro v4 w4 hown4 hg4 hat4; obtain ⟨A4, c4, rfl⟩ := own_slice hown4; have hb4 : Below wi.heap.size wi w4 := (hbi.alloc hbi.size _).grown hg4 (by have := hbi.size; simp; omega) (fun k hk => own_base hown2 k hk); clear hg4 hat4))
                exact ⟨⟨j + 1, A4, c4, n2 + 1, by go_num, hjlt, rfl, by omega, by rw [HLI.out]; exact hown4, hb4⟩, by simp [intOf]; omega⟩
            · obtain rfl : j = m := by omega
              have hM := HM.out
              have hzz := hb1.size
              have hokn : LOkL (es.take a ++ [e] ++ es.drop a) := by
                intro x hx
                simp only [List.mem_append, List.mem_singleton] at hx
                rcases hx with (hx | rfl) | hx
                · exact hokl _ (List.mem_of_mem_take hx)
                · exact ho
                · exact hokl _ (List.mem_of_mem_drop hx)
              have hfsn : LFs (es.take a ++ [e] ++ es.drop a) := by
                intro x hx
                simp only [List.mem_append, List.mem_singleton] at hx
                rcases hx with (hx | rfl) | hx
                · exact hfs _ (List.mem_of_mem_take hx)
                · exact hke
                · exact hfs _ (List.mem_of_mem_drop hx)
              have hln : (es.take a ++ [e] ++ es.drop a).length = j + 1 := by simp; omega
              have hstn : sb = true → LStrict (es.take a ++ [e] ++ es.drop a) := fun hs => HA.out.2 rfl hs (HSTR.out hs)
              have HOKN := Lib.hid hokn
              have HFSN := Lib.hid hfsn
              have HLN := Lib.hid hln
              have HSTN := Lib.hid hstn
              clear hokn hfsn hln hstn
              by_cases haj : a = j
              · subst haj
                have hd : decide ((a : Int) ≤ (a : Int)) = true := decide_eq_true (by omega)
                have hdn : decide (a ≤ a) = true := decide_eq_true (by omega)
                go_wp2_with (first
                  | (at_builtin; refine wpList_append_any _ rfl (.tmp 80) (.tmp 82) _ rfl wi.heap.size 73 ie _ 4 48 Try.underlying59 ei0 ez0 ez1 ez2 rfl (by omega) (.slice A2 n2 c2) n2 _ rfl (hown2.alloc _) (wr.heap.size + 1) (some ⟨wr.heap.size, 0, none⟩) 1 1 (lRow e) rfl (Reads.four _ _ _ _ _ _) (lRow_one e) (by unfold maxLen; omega) (by omega) (by have := hbi.size; simp; omega) ?_; intro v4 w4 hown4 hg4 hat4; obtain ⟨A4, c4, rfl⟩ := own_slice hown4; have hb4 : Below wi.heap.size wi w4 := (hbi.alloc hbi.size _).grown hg4 (by have := hbi.size; simp; omega) (fun k hk => own_base hown2 k hk); clear hg4 hat4))
                have hfin : LCs (lIns es e a a) ++ lRow e = LCs (es.take a ++ [e] ++ es.drop a) := by
                  have h1 := lIns_end_eq (es := es) (e := e)
                  rw [hM] at h1
                  rw [← h1, LCs_snoc]
                have h1 := hown4.1
                rw [hfin, LCs_length, HLN.out] at h1
                have hn4 : n2 + 1 = a + 1 := by omega
                have hown5 := hown4
                rw [hfin] at hown5
                exact ⟨⟨k + 1, _, A4, c4, n2 + 1, by go_num, by omega, rfl, by rw [HLN.out]; omega, by omega, own_weaken hown5 hzz, HOKN.out, HFSN.out, HSTN.out, hb1.trans (hb4.mono hzz)⟩, by simp [intOf]; omega⟩
              · have hd : decide ((j : Int) ≤ (a : Int)) = false := decide_eq_false (by omega)
                have hdn : decide (j ≤ a) = false := decide_eq_false (by omega)
                have hfin : LCs (lIns es e a j) = LCs (es.take a ++ [e] ++ es.drop a) := by
                  have h1 := lIns_end_lt (es := es) (e := e) (a := a) (by omega)
                  rw [hM] at h1
                  rw [h1]
                have hown5 := hown2
                rw [hfin] at hown5
                have h1 := hown5.1
                rw [LCs_length, HLN.out] at h1
                have hn4 : n2 = j + 1 := by omega
                have HN4 := Lib.hid hn4
                clear hfin h1 hn4 x0 x1 x2 x3
                go_wp2_with fail
                exact ⟨⟨k + 1, _, A2, c2, n2, by go_num, by omega, rfl, by rw [HLN.out]; have := HN4.out; omega, by have := HN4.out; omega, own_weaken hown5 hzz, HOKN.out, HFSN.out, HSTN.out, hb1.trans (hbi.mono hzz)⟩, by simp [intOf]; omega⟩
    · obtain ⟨wo, rfl⟩ : ∃ wo : World, wo = wr := ⟨_, rfl⟩
      have hE := rlents_own hown hokl
      have hm30 : m ≤ 30 := by omega
      have hbs := hbw.size
      clear h hk
      go_wp2_with fail
      go_loopw [6, 14] (fun v i w2 => ∃ (j : Nat) (Al : Option Addr) (cl : Nat) (cs : List Value), i = .int .i64 (j : Int) ∧ j ≤ m ∧ v = .slice Al j cl ∧ w2.ownsRow wo.heap.size 70 4 (.slice Al j cl) j cs ∧ LPk w2 cs (es.take j) ∧ Below wo.heap.size wo w2) (fun _ i _ => m - (intOf i).toNat)
      case atStart => exact ⟨0, none, 0, [], rfl, Nat.zero_le _, rfl, World.ownsRow_nil _ _ _ _, LPk.nil_ _, Below.refl _ _⟩
      case round =>
        obtain ⟨j, Al, cl, cs, rfl, hjm, rfl, hownl, hep, hb2⟩ := hrel
        by_cases hjlt : j < m
        · obtain ⟨e, ad2, hej, ho, rfl, hl⟩ := (hE.below hb2).at_ hjlt
          have hS : ∀ w' : World, Below wo.heap.size wr.drew w' → w'.cell? (ad2.add (j * 4)) = some (.string (st e.key)) ∧ w'.cell? ⟨(ad2.add (j * 4)).block, (ad2.add (j * 4)).off + 1, none⟩ = some (.string (st e.val)) ∧ w'.cell? ⟨(ad2.add (j * 4)).block, (ad2.add (j * 4)).off + 2, none⟩ = some (.int .i64 e.long) ∧ w'.cell? ⟨(ad2.add (j * 4)).block, (ad2.add (j * 4)).off + 3, none⟩ = some (.int .u32 (e.first : Int)) := fun w' hw' => ((hl.below ((Below.refl wo.heap.size wr).drew)).below hw').cells
          have HS := Lib.hid hS
          have HEJ := Lib.hid hej
          clear hS hl hej
          go_wp2_with fail
          refine wp_region_held_drew (S := (fun w' => w'.cell? (ad2.add (j * 4)) = some (.string (st e.key)) ∧ w'.cell? ⟨(ad2.add (j * 4)).block, (ad2.add (j * 4)).off + 1, none⟩ = some (.string (st e.val)) ∧ w'.cell? ⟨(ad2.add (j * 4)).block, (ad2.add (j * 4)).off + 2, none⟩ = some (.int .i64 e.long) ∧ w'.cell? ⟨(ad2.add (j * 4)).block, (ad2.add (j * 4)).off + 3, none⟩ = some (.int .u32 (e.first : Int)))) (by kernel_rfl) ?_ (fun hHeld => ?_)
          · exact HS.out _ (by first | assumption | exact Below.refl _ _)
          refine takeP (i := 0) rfl (by kernel_rfl) (by kernel_rfl) (by kernel_rfl) (fun _ _ _ h => h) (by rfl) (by assumption) (v := ?_) ?_ ?_
          rotate_left
          · intro w' hSw
            try dsimp only at hSw
            go_simp
            try with_reducible rfl
          try simp only [Act.put, List.setIfInBounds_toArray, List.set_cons_zero, List.set_cons_succ]
          refine takeP (i := 1) rfl (by kernel_rfl) (by kernel_rfl) (by kernel_rfl) (fun _ _ _ h => h) (by rfl) (by assumption) (v := ?_) ?_ ?_
          rotate_left
          · intro w' hSw
            try dsimp only at hSw
            go_simp
            try with_reducible rfl
          try simp only [Act.put, List.setIfInBounds_toArray, List.set_cons_zero, List.set_cons_succ]
          refine takeP (i := 2) rfl (by kernel_rfl) (by kernel_rfl) (by kernel_rfl) (fun _ _ _ h => h) (by rfl) (by assumption) (v := ?_) ?_ ?_
          rotate_left
          · intro w' hSw
            try dsimp only at hSw
            go_simp
            try with_reducible rfl
          try simp only [Act.put, List.setIfInBounds_toArray, List.set_cons_zero, List.set_cons_succ]
          refine takeP (i := 3) rfl (by kernel_rfl) (by kernel_rfl) (by kernel_rfl) (fun _ _ _ h => h) (by rfl) (by assumption) (v := ?_) ?_ ?_
          rotate_left
          · intro w' hSw
            try dsimp only at hSw
            go_simp
            try with_reducible rfl
          try simp only [Act.put, List.setIfInBounds_toArray, List.set_cons_zero, List.set_cons_succ]
          refine takeP (i := 4) rfl (by kernel_rfl) (by kernel_rfl) (by kernel_rfl) (fun _ _ _ h => h) (by rfl) (by assumption) (v := ?_) ?_ ?_
          rotate_left
          · intro w' hSw
            try dsimp only at hSw
            go_simp
            try with_reducible rfl
          try simp only [Act.put, List.setIfInBounds_toArray, List.set_cons_zero, List.set_cons_succ]
          refine takeP (i := 5) rfl (by kernel_rfl) (by kernel_rfl) (by kernel_rfl) (fun _ _ _ h => h) (by rfl) (by assumption) (v := ?_) ?_ ?_
          rotate_left
          · intro w' hSw
            try dsimp only at hSw
            go_simp
            try with_reducible rfl
          try simp only [Act.put, List.setIfInBounds_toArray, List.set_cons_zero, List.set_cons_succ]
          refine takeP (i := 7) rfl (by kernel_rfl) (by kernel_rfl) (by kernel_rfl) (fun _ _ _ h => h) (by rfl) (by assumption) (v := ?_) ?_ ?_
          rotate_left
          · intro w' hSw
            try dsimp only at hSw
            go_simp
            try with_reducible rfl
          try simp only [Act.put, List.setIfInBounds_toArray, List.set_cons_zero, List.set_cons_succ]
          refine takeP (i := 8) rfl (by kernel_rfl) (by kernel_rfl) (by kernel_rfl) (fun _ _ _ h => h) (by rfl) (by assumption) (v := ?_) ?_ ?_
          rotate_left
          · intro w' hSw
            try dsimp only at hSw
            go_simp
            try with_reducible rfl
          try simp only [Act.put, List.setIfInBounds_toArray, List.set_cons_zero, List.set_cons_succ]
          refine takeP (i := 9) rfl (by kernel_rfl) (by kernel_rfl) (by kernel_rfl) (fun _ _ _ h => h) (by rfl) (by assumption) (v := ?_) ?_ ?_
          rotate_left
          · intro w' hSw
            try dsimp only at hSw
            go_simp
            try with_reducible rfl
          try simp only [Act.put, List.setIfInBounds_toArray, List.set_cons_zero, List.set_cons_succ]
          refine takeP (i := 10) rfl (by kernel_rfl) (by kernel_rfl) (by kernel_rfl) (fun _ _ _ h => h) (by rfl) (by assumption) (v := ?_) ?_ ?_
          rotate_left
          · intro w' hSw
            try dsimp only at hSw
            go_simp
            try with_reducible rfl
          try simp only [Act.put, List.setIfInBounds_toArray, List.set_cons_zero, List.set_cons_succ]
          refine takeP (i := 11) rfl (by kernel_rfl) (by kernel_rfl) (by kernel_rfl) (fun _ _ _ h => h) (by rfl) (by assumption) (v := ?_) ?_ ?_
          rotate_left
          · intro w' hSw
            try dsimp only at hSw
            go_simp
            try with_reducible rfl
          try simp only [Act.put, List.setIfInBounds_toArray, List.set_cons_zero, List.set_cons_succ]
          refine takeP (i := 13) rfl (by kernel_rfl) (by kernel_rfl) (by kernel_rfl) (fun _ _ _ h => h) (by rfl) (by assumption) (v := ?_) ?_ ?_
          rotate_left
          · intro w' hSw
            try dsimp only at hSw
            go_simp
            try with_reducible rfl
          try simp only [Act.put, List.setIfInBounds_toArray, List.set_cons_zero, List.set_cons_succ]
          refine takeP (i := 14) rfl (by kernel_rfl) (by kernel_rfl) (by kernel_rfl) (fun _ _ _ h => h) (by rfl) (by assumption) (v := ?_) ?_ ?_
          rotate_left
          · intro w' hSw
            try dsimp only at hSw
            go_simp
            try with_reducible rfl
          try simp only [Act.put, List.setIfInBounds_toArray, List.set_cons_zero, List.set_cons_succ]
          refine takeP (i := 15) rfl (by kernel_rfl) (by kernel_rfl) (by kernel_rfl) (fun _ _ _ h => h) (by rfl) (by assumption) (v := ?_) ?_ ?_
          rotate_left
          · intro w' hSw
            try dsimp only at hSw
            go_simp
            try with_reducible rfl
          try simp only [Act.put, List.setIfInBounds_toArray, List.set_cons_zero, List.set_cons_succ]
          refine takeP (i := 16) rfl (by kernel_rfl) (by kernel_rfl) (by kernel_rfl) (fun _ _ _ h => h) (by rfl) (by assumption) (v := ?_) ?_ ?_
          rotate_left
          · intro w' hSw
            try dsimp only at hSw
            go_simp
            try with_reducible rfl
          try simp only [Act.put, List.setIfInBounds_toArray, List.set_cons_zero, List.set_cons_succ]
          refine takeP (i := 17) rfl (by kernel_rfl) (by kernel_rfl) (by kernel_rfl) (fun _ _ _ h => h) (by rfl) (by assumption) (v := ?_) ?_ ?_
          rotate_left
          · intro w' hSw
            try dsimp only at hSw
            go_simp
            try with_reducible rfl
          try simp only [Act.put, List.setIfInBounds_toArray, List.set_cons_zero, List.set_cons_succ]
          refine takeP (i := 18) rfl (by kernel_rfl) (by kernel_rfl) (by kernel_rfl) (fun _ _ _ h => h) (by rfl) (by assumption) (v := ?_) ?_ ?_
          rotate_left
          · intro w' hSw
            try dsimp only at hSw
            go_simp
            try with_reducible rfl
          try simp only [Act.put, List.setIfInBounds_toArray, List.set_cons_zero, List.set_cons_succ]
          refine takeP (i := 19) rfl (by kernel_rfl) (by kernel_rfl) (by kernel_rfl) (fun _ _ _ h => h) (by rfl) (by assumption) (v := ?_) ?_ ?_
          rotate_left
          · intro w' hSw
            try dsimp only at hSw
            go_simp
            try with_reducible rfl
          try simp only [Act.put, List.setIfInBounds_toArray, List.set_cons_zero, List.set_cons_succ]
          refine takeP (i := 20) rfl (by kernel_rfl) (by kernel_rfl) (by kernel_rfl) (fun _ _ _ h => h) (by rfl) (by assumption) (v := ?_) ?_ ?_
          rotate_left
          · intro w' hSw
            try dsimp only at hSw
            go_simp
            try with_reducible rfl
          try simp only [Act.put, List.setIfInBounds_toArray, List.set_cons_zero, List.set_cons_succ]
          refine takeP (i := 21) rfl (by kernel_rfl) (by kernel_rfl) (by kernel_rfl) (fun _ _ _ h => h) (by rfl) (by assumption) (v := ?_) ?_ ?_
          rotate_left
          · intro w' hSw
            try dsimp only at hSw
            go_simp
            try with_reducible rfl
          try simp only [Act.put, List.setIfInBounds_toArray, List.set_cons_zero, List.set_cons_succ]
          refine takeP (i := 22) rfl (by kernel_rfl) (by kernel_rfl) (by kernel_rfl) (fun _ _ _ h => h) (by rfl) (by assumption) (v := ?_) ?_ ?_
          rotate_left
          · intro w' hSw
            try dsimp only at hSw
            go_simp
            try with_reducible rfl
          try simp only [Act.put, List.setIfInBounds_toArray, List.set_cons_zero, List.set_cons_succ]
          refine carryP2 (i := 6) (j := 12) rfl rfl (by kernel_rfl) (by rfl) (by rfl) (fun K hK => ?_) (fun K hK => ?_)
          · refine wp_conv_bytes 9 23 (.tmp 96) rfl e.key Try.underlying9 Try.underlying23 Try.underlying5 rfl ?_
            intro A5 c5 w5 hk5 hb5 hz5
            clear hz5
            have hX5 : Below wo.heap.size wr.drew w5 := hb5.mono hb2.size
            have hZ5 : wo.heap.size ≤ w5.heap.size := Nat.le_trans hb2.size hb5.size
            have hown5 := own_below (w := wr.drew) hownl hb5 (Nat.le_refl _)
            have hep5 := LPk.below (w := wr.drew) hep hb5 (Nat.le_refl _)
            refine hK.out _ _ ?_ (fun hHeld => ?_)
            · exact HS.out _ (by first | assumption | exact Below.refl _ _)
            clear hK K
            try simp only [Act.put, List.setIfInBounds_toArray, List.set_cons_zero, List.set_cons_succ]
            refine carryP (i := 12) rfl (by kernel_rfl) (by rfl) (fun K hK => ?_)
            refine wp_conv_bytes 9 23 (.tmp 102) rfl e.val Try.underlying9 Try.underlying23 Try.underlying5 rfl ?_
            intro A6 c6 w6 hk6 hb6 hz6
            clear hz6
            have hX6 : Below wo.heap.size wr.drew w6 := hX5.trans (hb6.mono hZ5)
            have hZ6 : wo.heap.size ≤ w6.heap.size := Nat.le_trans hZ5 hb6.size
            have hown6 := own_below hown5 hb6 (Nat.le_refl _)
            have hep6 := hep5.below hb6 (Nat.le_refl _)
            have hk56 := hk5.below hb6 (Nat.le_refl _)
            refine hK.out _ _ ?_ (fun hHeld => ?_)
            · exact HS.out _ (by first | assumption | exact Below.refl _ _)
            clear hK K
            try simp only [Act.put, List.setIfInBounds_toArray, List.set_cons_zero, List.set_cons_succ]
            refine takeP (i := 23) rfl (by kernel_rfl) (by kernel_rfl) (by kernel_rfl) (fun _ _ _ h => h) (by rfl) (by assumption) (v := ?_) ?_ ?_
            rotate_left
            · intro w' hSw
              try dsimp only at hSw
              go_simp
              try with_reducible rfl
            try simp only [Act.put, List.setIfInBounds_toArray, List.set_cons_zero, List.set_cons_succ]
            refine carryP (i := 24) rfl (by kernel_rfl) (by rfl) (fun K hK => ?_)
            go_simp
            have hX7 : Below wo.heap.size wr.drew (w6.alloc (lObj e A5 e.key.length c5 A6 e.val.length c6)) := hX6.alloc hZ6 _
            have hZ7 : wo.heap.size ≤ (w6.alloc (lObj e A5 e.key.length c5 A6 e.val.length c6)).heap.size := by simp; omega
            refine hK.out _ _ ?_ (fun hHeld => ?_)
            · exact HS.out _ (by first | assumption | exact Below.refl _ _)
            clear hK K
            try simp only [Act.put, List.setIfInBounds_toArray, List.set_cons_zero, List.set_cons_succ]
            refine carryP (i := 25) rfl (by kernel_rfl) (by rfl) (fun K hK => ?_)
            refine wp_append_any _ (.tmp 91) (.tmp 115) _ rfl wo.heap.size 70 ib _ 4 64 Try.underlying58 bi0 bz0 bz1 bz2 rfl (by omega) (.slice Al j cl) j cs (by rfl) (hown6.alloc _) (w6.heap.size + 1) (some ⟨w6.heap.size, 0, none⟩) 1 1 [.slice A5 e.key.length c5, .slice A6 e.val.length c6, .int .i64 e.long, .int .u32 (e.first : Int)] (by rfl) (Reads.four _ _ _ _ _ _) (by simp [Value.oneCell']) (by unfold maxLen; omega) (by omega) hZ7 ?_
            intro v8 w8 hown8 hg8 hat8
            obtain ⟨A8, c8, rfl⟩ := own_slice hown8
            have hX8 : Below wo.heap.size wr.drew w8 := hX7.grown hg8 hZ7 (fun k hk => own_base hown6 k hk)
            refine hK.out _ _ ?_ (fun hHeld => ?_)
            · exact HS.out _ (by first | assumption | exact Below.refl _ _)
            clear hK K
            try simp only [Act.put, List.setIfInBounds_toArray, List.set_cons_zero, List.set_cons_succ]
            refine takeP (i := 26) rfl (by kernel_rfl) (by kernel_rfl) (by kernel_rfl) (fun _ _ _ h => h) (by rfl) (by assumption) (v := ?_) ?_ ?_
            rotate_left
            · intro w' hSw
              try dsimp only at hSw
              go_simp
              try with_reducible rfl
            try simp only [Act.put, List.setIfInBounds_toArray, List.set_cons_zero, List.set_cons_succ]
            refine wpAnyH_done (by kernel_rfl) ?_ _
            go_wp2_with fail
            have hs8 : ∀ (g : Nat) (C : Array Value) (fr : Nat × Nat), w6.heap[g]? = some (.cells C 5 fr) → w8.heap[g]? = w6.heap[g]? := fun g C fr hg => by
              have h1 := blk_alloc hg (lObj e A5 e.key.length c5 A6 e.val.length c6)
              exact ((hg8.block g (blk_lt h1) (own_neF (hown6.alloc (lObj e A5 e.key.length c5 A6 e.val.length c6)) h1 (by decide))).trans h1).trans hg.symm
            refine ⟨⟨j + 1, A8, c8, _, by go_num, hjlt, rfl, hown8, ?_, hb2.trans ((((Below.refl wo.heap.size wr).drew)).trans hX8)⟩, by simp [intOf]; omega⟩
            rw [take_succ_some HEJ.out]
            exact LPk.snoc (hep6.same hs8) ho (hk56.same hs8) (hk6.same hs8)
          · refine wp_conv_bytes 9 23 (.tmp 102) rfl e.val Try.underlying9 Try.underlying23 Try.underlying5 rfl ?_
            intro A5 c5 w5 hk5 hb5 hz5
            clear hz5
            have hX5 : Below wo.heap.size wr.drew w5 := hb5.mono hb2.size
            have hZ5 : wo.heap.size ≤ w5.heap.size := Nat.le_trans hb2.size hb5.size
            have hown5 := own_below (w := wr.drew) hownl hb5 (Nat.le_refl _)
            have hep5 := LPk.below (w := wr.drew) hep hb5 (Nat.le_refl _)
            refine hK.out _ _ ?_ (fun hHeld => ?_)
            · exact HS.out _ (by first | assumption | exact Below.refl _ _)
            clear hK K
            try simp only [Act.put, List.setIfInBounds_toArray, List.set_cons_zero, List.set_cons_succ]
            refine carryP (i := 6) rfl (by kernel_rfl) (by rfl) (fun K hK => ?_)
            refine wp_conv_bytes 9 23 (.tmp 96) rfl e.key Try.underlying9 Try.underlying23 Try.underlying5 rfl ?_
            intro A6 c6 w6 hk6 hb6 hz6
            clear hz6
            have hX6 : Below wo.heap.size wr.drew w6 := hX5.trans (hb6.mono hZ5)
            have hZ6 : wo.heap.size ≤ w6.heap.size := Nat.le_trans hZ5 hb6.size
            have hown6 := own_below hown5 hb6 (Nat.le_refl _)
            have hep6 := hep5.below hb6 (Nat.le_refl _)
            have hk56 := hk5.below hb6 (Nat.le_refl _)
            refine hK.out _ _ ?_ (fun hHeld => ?_)
            · exact HS.out _ (by first | assumption | exact Below.refl _ _)
            clear hK K
            try simp only [Act.put, List.setIfInBounds_toArray, List.set_cons_zero, List.set_cons_succ]
            refine takeP (i := 23) rfl (by kernel_rfl) (by kernel_rfl) (by kernel_rfl) (fun _ _ _ h => h) (by rfl) (by assumption) (v := ?_) ?_ ?_
            rotate_left
            · intro w' hSw
              try dsimp only at hSw
              go_simp
              try with_reducible rfl
            try simp only [Act.put, List.setIfInBounds_toArray, List.set_cons_zero, List.set_cons_succ]
            refine carryP (i := 24) rfl (by kernel_rfl) (by rfl) (fun K hK => ?_)
            go_simp
            have hX7 : Below wo.heap.size wr.drew (w6.alloc (lObj e A6 e.key.length c6 A5 e.val.length c5)) := hX6.alloc hZ6 _
            have hZ7 : wo.heap.size ≤ (w6.alloc (lObj e A6 e.key.length c6 A5 e.val.length c5)).heap.size := by simp; omega
            refine hK.out _ _ ?_ (fun hHeld => ?_)
            · exact HS.out _ (by first | assumption | exact Below.refl _ _)
            clear hK K
            try simp only [Act.put, List.setIfInBounds_toArray, List.set_cons_zero, List.set_cons_succ]
            refine carryP (i := 25) rfl (by kernel_rfl) (by rfl) (fun K hK => ?_)
            refine wp_append_any _ (.tmp 91) (.tmp 115) _ rfl wo.heap.size 70 ib _ 4 64 Try.underlying58 bi0 bz0 bz1 bz2 rfl (by omega) (.slice Al j cl) j cs (by rfl) (hown6.alloc _) (w6.heap.size + 1) (some ⟨w6.heap.size, 0, none⟩) 1 1 [.slice A6 e.key.length c6, .slice A5 e.val.length c5, .int .i64 e.long, .int .u32 (e.first : Int)] (by rfl) (Reads.four _ _ _ _ _ _) (by simp [Value.oneCell']) (by unfold maxLen; omega) (by omega) hZ7 ?_
            intro v8 w8 hown8 hg8 hat8
            obtain ⟨A8, c8, rfl⟩ := own_slice hown8
            have hX8 : Below wo.heap.size wr.drew w8 := hX7.grown hg8 hZ7 (fun k hk => own_base hown6 k hk)
            refine hK.out _ _ ?_ (fun hHeld => ?_)
            · exact HS.out _ (by first | assumption | exact Below.refl _ _)
            clear hK K
            try simp only [Act.put, List.setIfInBounds_toArray, List.set_cons_zero, List.set_cons_succ]
            refine takeP (i := 26) rfl (by kernel_rfl) (by kernel_rfl) (by kernel_rfl) (fun _ _ _ h => h) (by rfl) (by assumption) (v := ?_) ?_ ?_
            rotate_left
            · intro w' hSw
              try dsimp only at hSw
              go_simp
              try with_reducible rfl
            try simp only [Act.put, List.setIfInBounds_toArray, List.set_cons_zero, List.set_cons_succ]
            refine wpAnyH_done (by kernel_rfl) ?_ _
            go_wp2_with fail
            have hs8 : ∀ (g : Nat) (C : Array Value) (fr : Nat × Nat), w6.heap[g]? = some (.cells C 5 fr) → w8.heap[g]? = w6.heap[g]? := fun g C fr hg => by
              have h1 := blk_alloc hg (lObj e A6 e.key.length c6 A5 e.val.length c5)
              exact ((hg8.block g (blk_lt h1) (own_neF (hown6.alloc (lObj e A6 e.key.length c6 A5 e.val.length c5)) h1 (by decide))).trans h1).trans hg.symm
            refine ⟨⟨j + 1, A8, c8, _, by go_num, hjlt, rfl, hown8, ?_, hb2.trans ((((Below.refl wo.heap.size wr).drew)).trans hX8)⟩, by simp [intOf]; omega⟩
            rw [take_succ_some HEJ.out]
            exact LPk.snoc (hep6.same hs8) ho (hk6.same hs8) (hk56.same hs8)
        · obtain rfl : j = m := by omega
          have htk : es.take j = es := List.take_of_length_le (by rw [HM.out]; exact Nat.le_refl _)
          rw [htk] at hep
          have hcl : j ≤ cl := by
            rcases hownl.2 with ⟨hv, h0⟩ | ⟨_, _, _, hv, _, _, hc, _⟩
            · omega
            · cases hv; exact hc
          have hEl := hep.ents hownl
          have hEw := (hE.below hb2).more hb2.size
          have hb := hbw.trans (hb2.mono hbs)
          have hM := HM.out
          subst hM
          go_wp2_with fail
          go_ret2
          exact ⟨es, _, _, _, _, rfl, by omega, hokl, hfs, HSTR.out, hcl, hEl, hEw, hb⟩

end Go.Proofs.Ytmljfjmceakahaa
