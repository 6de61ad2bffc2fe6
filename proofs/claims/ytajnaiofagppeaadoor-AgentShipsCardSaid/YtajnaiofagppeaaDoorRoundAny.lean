/- A region that draws its order, in a round: as outside one, if it defers nothing. -/
import Derived.RangeFuncNested
import Derived.OrdersIn
import Derived.Test.YtajnaiofagppeaaDoorProg
namespace Go.Proofs.YtajnaiofagppeaaDoor.SeqOver
open Go Go.RowKit
set_option linter.unusedVariables false
def noDefer (ops : Array Oper) : Bool := ops.all fun o => match o.op with | .defer _ => false | _ => true
theorem no_defer {ops : Array Oper} (h : noDefer ops = true) {i : Nat} {o : Oper} (ho : ops[i]? = some o) : ∀ c, o.op ≠ .defer c := fun c e => by
  obtain ⟨hi, rfl⟩ := Array.getElem?_eq_some_iff.1 ho
  have k := (Array.all_eq_true.1 h) i hi
  rw [e] at k
  cases k
variable {F : Fence} {n : Nat} {P : Program} {ops : Array Oper} {Q : Exit → Act → World → Prop} {md : Region.Mode}
theorem op_round {o : Oper} {a : Act} {w : World} {K : Act → World → Prop} (l : Nat) (hro : F.round = none) (hd : ∀ c, o.op ≠ .defer c) (h : Oper.wpIn F n P o a w K Q) : Oper.wpIn (F.inRound l) n P o a w K Q := by
  refine ⟨h.1, ?_⟩
  have h2 := h.2
  rw [hro, Oper.semAt_none] at h2
  show o.uponIn (F.inRound l) n P a K Q ((o.semAt (some l) a.eval).run P w)
  rw [Oper.semAt_eq _ _ _ hd]
  revert h2
  generalize (execOp a.eval o).run P w = r
  intro h2
  exact h2
theorem any_round (l : Nat) (hro : F.round = none) (hd : noDefer ops = true) : ∀ (fuel : Nat) (listed : Array Bool) (a : Act) (w : World), wpAnyIn F n P md ops Q fuel listed a w → wpAnyIn (F.inRound l) n P md ops Q fuel listed a w := by
  intro fuel
  induction fuel with
  | zero => intro listed a w h; exact h
  | succ fuel ih =>
    intro listed a w h
    refine ⟨h.1, fun i hi => ?_⟩
    have k := wpOpIn_mono (fun a' w' h' => ih (listed.setIfInBounds i true) a' w' h') (h.2 i hi)
    unfold wpOpIn at k ⊢
    split
    · rename_i e; simp only [e] at k; exact k
    · rename_i o e
      simp only [e] at k
      split
      · rename_i hw
        rw [if_pos hw] at k
        exact op_round l hro (no_defer hd e) k
      · rename_i hw
        rw [if_neg hw] at k
        exact k
end Go.Proofs.YtajnaiofagppeaaDoor.SeqOver
