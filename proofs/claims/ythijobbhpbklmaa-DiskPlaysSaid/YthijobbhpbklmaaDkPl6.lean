/- Round -/
import Derived.Test.YthijobbhpbklmaaDkPl2
import Derived.OrdersIn
import Derived.RangeFuncCalls
set_option linter.unusedVariables false
set_option linter.unusedSimpArgs false
/- A region inside a round of a range over a function, walked by the plain calculus: it may draw its order; held loads are taken first. -/
namespace Go.Proofs.Ythijobbhpbklmaa
open Go.RowKit
def onlyN (Q : Exit → Act → World → Prop) : Exit → Act → World → Prop
  | .normal, a, w => Q .normal a w
  | _, _, _ => False
theorem onlyN_out (Q : Exit → Act → World → Prop) : ¬ LetsOut (onlyN Q) := by rintro ⟨a, w, h⟩; exact h
theorem rowsIn_of {l n : Nat} {P : Program} {row : String} {args : Array Value} {w : World} {R : Value → World → Prop} (h : Rows P row args w R) : RowsIn (Fence.wide.inRound l) n P row args w R := by
  intro c cs _
  obtain ⟨v, w', r, s⟩ := h c cs
  exact ⟨v, w', r, stepsIn_wide.2 s⟩
def noDefer (ops : Array Oper) : Prop := ∀ (i : Nat) (o : Oper), ops[i]? = some o → ∀ c, o.op ≠ .defer c
theorem operIn_of {l n : Nat} {P : Program} {o : Oper} {a : Act} {w : World} {K : Act → World → Prop} {Q : Exit → Act → World → Prop} (hd : ∀ c, o.op ≠ .defer c) (h : o.wp P a w K (onlyN Q)) : o.wpIn (Fence.wide.inRound l) n P a w K Q := by
  unfold Oper.wp at h
  unfold Oper.wpIn
  have hdp : (Fence.wide.inRound l).depth.isSome = true → 1 ≤ n := fun h => by simp [Fence.wide] at h
  refine ⟨fun f _ => trivial, ?_⟩
  rw [Oper.semAt_eq _ _ _ hd]
  generalize (execOp a.eval o).run P w = r at h
  cases r with
  | ok x w' =>
    cases x
    case value v => exact h
    case skip => exact h
    case defer d => exact h
    case enter f args =>
      refine ⟨hdp, ?_⟩
      refine (CallsIn.inRound l (callsIn_wide.2 h)).mono fun e w'' he => ?_
      cases e with
      | returned v => exact he
      | panicked c => exact he.elim
      | outgrown => exact absurd he (onlyN_out Q)
    case row row args => exact ⟨hdp, rowsIn_of h⟩
    all_goals exact h.elim
  | halt x w' =>
    cases x <;> first | exact h.elim | exact h
theorem wpOpIn_of {l n : Nat} {P : Program} {ops : Array Oper} {i : Nat} {a : Act} {w : World} {K : Act → World → Prop} {Q : Exit → Act → World → Prop} (hd : noDefer ops) (h : wpOp P ops (onlyN Q) i K a w) : wpOpIn (Fence.wide.inRound l) n P ops Q i K a w := by
  unfold wpOp at h
  unfold wpOpIn
  cases ho : ops[i]? with
  | none => simp only [ho] at h ⊢; exact h
  | some o =>
    simp only [ho] at h ⊢
    split
    · rename_i hw
      simp only [hw, if_true] at h
      rcases h with h | h
      · exact operIn_of (hd i o ho) h
      · exact absurd h.2 (onlyN_out Q)
    · rename_i hw
      simp only [hw] at h
      exact ⟨fun f _ => trivial, h⟩
theorem wpAnyIn_of {l n : Nat} {P : Program} {md : Region.Mode} {ops : Array Oper} {Q : Exit → Act → World → Prop} (hd : noDefer ops) :
    ∀ (fuel : Nat) (listed : Array Bool) (a : Act) (w : World), wpAny P md ops (onlyN Q) fuel listed a w → wpAnyIn (Fence.wide.inRound l) n P md ops Q fuel listed a w
  | 0, _, _, _, h => ⟨h.1, h.2⟩
  | fuel + 1, _, _, _, h => ⟨fun hr => h.1 hr, fun i hi => wpOpIn_of hd (wpOp_mono (fun a' w' h' => wpAnyIn_of hd fuel _ a' w' h') (h.2 i hi))⟩
theorem wp_round_held {l n : Nat} {P : Program} {ops : Array Oper} {Q : Exit → Act → World → Prop} {S : World → Prop} {id : Nat} {a : Act} {w : World} (hm : P.follows .mixedOrders = true) (hd : noDefer ops) (hS : S w.drew)
    (h : S w.drew → wpAnyH P .any ops (onlyN Q) S ops.size (Array.replicate ops.size false) a w.drew) : (Code.region id ops true).wpIn (Fence.wide.inRound l) n P Q a w :=
  wpIn_region_any hm (wpAnyIn_of hd _ _ _ _ (wpAny_of_held _ _ _ _ (h hS)))
def isDefer : Op → Bool
  | .defer _ => true
  | _ => false
theorem noDefer_of (ops : Array Oper) (h : ops.toList.all (fun o => !isDefer o.op) = true) : noDefer ops := by
  intro i o ho c e
  have := List.all_eq_true.1 h o (by rw [Array.getElem?_eq_some_iff] at ho; obtain ⟨hi, rfl⟩ := ho; simp)
  rw [e] at this
  cases this
end Go.Proofs.Ythijobbhpbklmaa
