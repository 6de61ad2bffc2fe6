/- Ballots that came in; a map's operations in a walk, by their runs. -/
import Derived.Test.YtajnaiofagppeaaDoorBallot
import Derived.Test.YtajnaiofagppeaaDoorMapV
namespace Go.Proofs.YtajnaiofagppeaaDoor.RowsBal
open Go Go.RowKit AgentSpec Flat Ballot
set_option linter.unusedSimpArgs false
set_option linter.unusedVariables false
def toB (row : List Value) : Ba := ⟨match row with | .int _ x :: _ => x | _ => 0, match row with | _ :: .int _ x :: _ => x | _ => 0⟩
/-- Rows of two numbers that came in, as ballots. -/
theorem rows_bal {w : World} {a : Option Addr} {len cap : Nat} {r : List (List Value)} (h : IsRows [.int .i64, .int .i64] w a len cap r) :
    ∃ l : List Ba, l.length = len ∧ IsBal w (.slice a len cap) l ∧ ∀ b ∈ l, (Lit.int .i64 b.tx).wf = true := by
  obtain ⟨hl, h1, h2, hf, hc⟩ := h
  have key : ∀ row ∈ r, row = [.int .i64 (toB row).tx, .int .i64 (toB row).vote] ∧ (Lit.int .i64 (toB row).tx).wf = true := fun row hr => by
    obtain ⟨x, _, rfl, wx, x1⟩ := (hf row hr).int
    obtain ⟨y, _, rfl, wy, x2⟩ := x1.int
    obtain rfl := x2.done
    exact ⟨rfl, wx⟩
  refine ⟨r.map toB, by rw [List.length_map, hl], ⟨a, cap, by rw [List.length_map, hl], by rw [List.length_map, hl]; exact h1, h2, fun hp => ?_⟩, fun b hb => ?_⟩
  · rw [List.length_map, hl] at hp
    obtain ⟨b, off, ha, hd⟩ := hc hp
    have cells : ∀ i (h : i < len), w.cell? ⟨b, off + i * 2, none⟩ = some (.int .i64 (toB (r[i]'(by omega))).tx) ∧ w.cell? ⟨b, off + i * 2 + 1, none⟩ = some (.int .i64 (toB (r[i]'(by omega))).vote) := fun i hi => by
      have k0 := hd i hi 0 (by decide)
      have k1 := hd i hi 1 (by decide)
      have hr : r.getD i [] = r[i]'(by omega) := by simp [List.getD, List.getElem?_eq_getElem (show i < r.length by omega)]
      rw [hr] at k0 k1
      have q := (key _ (List.getElem_mem (show i < r.length by omega))).1
      generalize r[i]'(by omega) = row at k0 k1 q ⊢
      rw [q] at k0 k1
      exact ⟨k0, k1⟩
    refine ⟨b, off, ha, Flat.cell_lt (cells 0 hp).1, fun i hi => ?_⟩
    rw [List.length_map] at hi
    rw [List.getElem_map]
    exact cells i (by omega)
  · obtain ⟨row, hr, rfl⟩ := List.mem_map.1 hb
    exact (key row hr).2
section
variable {P : Program} {ops : Array Oper} {rest : List Oper} {o : Oper} {a : Act} {Q : Exit → Act → World → Prop}
theorem wpList_mapUpdate_run (w : World) (hg : o.guard = none) (m x v : Operand) (t : TypeId) (hop : o.op = Op.mapUpdate t m x v) {mm key val : Value} (hm : a.eval m = mm) (hx : a.eval x = key) (hv : a.eval v = val)
    {w' : World} (hrun : (Instr.mapUpdate t mm key val).run P w = .ok () w') (hK : wpList P ops Q rest (a.put o.dst undef) w') : wpList P ops Q (o :: rest) a w := by
  refine wpList_plain hg fun K' hK' => ?_
  unfold Oper.wp
  simp [execOp, hop, hm, hx, hv, hrun, Result.andThen]
  exact hK' _ _ hK
end
end Go.Proofs.YtajnaiofagppeaaDoor.RowsBal
