/- A deal is itself. -/
import Derived.Test.YtdlfjbllmmkmkaaDeal
import Derived.ChangeKeysEq
namespace Go.Proofs.Ytdlfjbllmmkmkaa.Chair
open Go.RowKit Flat ChairSpec Go.Proofs.YtdlfjbllmmkmkaaW.PrintLast
set_option linter.unusedSimpArgs false
set_option linter.unusedVariables false
set_option maxRecDepth 100000
theorem infoB : (Try.prog.info? 4).map (fun i => (i.zero, i.size, i.bytes)) = some (some (.bool false), 1, 1) := by kernel_rfl
theorem infoI : (Try.prog.info? 3).map (fun i => (i.zero, i.size, i.bytes)) = some (some (.int .i64 0), 1, 8) := by kernel_rfl
set_option maxHeartbeats 2000000 in
theorem bools_same (b0 b1 b2 b3 b4 b5 b6 b7 : Bool) (w : World) : (Op.equalIn 9998 37 (.agg #[.bool b0, .bool b1, .bool b2, .bool b3, .bool b4, .bool b5, .bool b6, .bool b7]) (.agg #[.bool b0, .bool b1, .bool b2, .bool b3, .bool b4, .bool b5, .bool b6, .bool b7])).run Try.prog w = .ok true w := by
  obtain ⟨i0, hi, _⟩ := info_parts infoB
  have e := run_equalIn_array (P := Try.prog) w 9997 #[.bool b0, .bool b1, .bool b2, .bool b3, .bool b4, .bool b5, .bool b6, .bool b7] #[.bool b0, .bool b1, .bool b2, .bool b3, .bool b4, .bool b5, .bool b6, .bool b7] Try.underlying37 hi
  refine e.trans ?_
  have hc : Try.prog.cellsOf 4 = 1 := by kernel_rfl
  rw [hc, show List.range 8 = [0, 1, 2, 3, 4, 5, 6, 7] from rfl]
  simp [Op.eqItems, go_sem]
set_option maxHeartbeats 2000000 in
theorem ints_same (b0 b1 b2 b3 b4 b5 b6 b7 : Int) (w : World) : (Op.equalIn 9998 38 (.agg #[.int .i64 b0, .int .i64 b1, .int .i64 b2, .int .i64 b3, .int .i64 b4, .int .i64 b5, .int .i64 b6, .int .i64 b7]) (.agg #[.int .i64 b0, .int .i64 b1, .int .i64 b2, .int .i64 b3, .int .i64 b4, .int .i64 b5, .int .i64 b6, .int .i64 b7])).run Try.prog w = .ok true w := by
  obtain ⟨i0, hi, _⟩ := info_parts infoI
  have e := run_equalIn_array (P := Try.prog) w 9997 #[.int .i64 b0, .int .i64 b1, .int .i64 b2, .int .i64 b3, .int .i64 b4, .int .i64 b5, .int .i64 b6, .int .i64 b7] #[.int .i64 b0, .int .i64 b1, .int .i64 b2, .int .i64 b3, .int .i64 b4, .int .i64 b5, .int .i64 b6, .int .i64 b7] Try.underlying38 hi
  refine e.trans ?_
  have hc : Try.prog.cellsOf 3 = 1 := by kernel_rfl
  rw [hc, show List.range 8 = [0, 1, 2, 3, 4, 5, 6, 7] from rfl]
  simp [Op.eqItems, go_sem]
set_option maxHeartbeats 4000000 in
theorem deal_same (d : De) (w : World) : (binOp .eql 44 (.agg (dc d).toArray) (.agg (dc d).toArray)).run Try.prog w = .ok (.bool true) w := by
  have hb := fun w => bools_same (d.ta.who 0) (d.ta.who 1) (d.ta.who 2) (d.ta.who 3) (d.ta.who 4) (d.ta.who 5) (d.ta.who 6) (d.ta.who 7) w
  have hv := fun w => ints_same (d.ta.votes 0) (d.ta.votes 1) (d.ta.votes 2) (d.ta.votes 3) (d.ta.votes 4) (d.ta.votes 5) (d.ta.votes 6) (d.ta.votes 7) w
  have he := fun w => ints_same (d.ta.epochs 0) (d.ta.epochs 1) (d.ta.epochs 2) (d.ta.epochs 3) (d.ta.epochs 4) (d.ta.epochs 5) (d.ta.epochs 6) (d.ta.epochs 7) w
  have e : (dc d).toArray = #[.bool (d.ta.who 0), .bool (d.ta.who 1), .bool (d.ta.who 2), .bool (d.ta.who 3), .bool (d.ta.who 4), .bool (d.ta.who 5), .bool (d.ta.who 6), .bool (d.ta.who 7), .int .i64 (d.ta.votes 0), .int .i64 (d.ta.votes 1), .int .i64 (d.ta.votes 2), .int .i64 (d.ta.votes 3), .int .i64 (d.ta.votes 4), .int .i64 (d.ta.votes 5), .int .i64 (d.ta.votes 6), .int .i64 (d.ta.votes 7), .int .i64 (d.ta.epochs 0), .int .i64 (d.ta.epochs 1), .int .i64 (d.ta.epochs 2), .int .i64 (d.ta.epochs 3), .int .i64 (d.ta.epochs 4), .int .i64 (d.ta.epochs 5), .int .i64 (d.ta.epochs 6), .int .i64 (d.ta.epochs 7), .int .i64 d.te.dl, .int .i64 d.te.span, .int .i64 d.te.used, .int .i64 d.te.cap, .int .i64 d.out] := rfl
  rw [e]
  clear e
  simp [go_sem, hb, hv, he]
theorem eq_run {P : Program} {oi : Oper} {a : Act} {w : World} {t t2 : TypeId} {x y : Operand} {xs ys : Array Value} {v : Value} (ho : oi.op = .binOp .eql t x y t2) (hx : a.eval x = .agg xs) (hy : a.eval y = .agg ys) (hm : P.eqGuardType P.depth t = false) (h : (binOp .eql t (.agg xs) (.agg ys)).run P w = .ok v w) : (execOp a.eval oi).run P w = .ok (.value v) w := by
  unfold execOp
  simp only [ho, hx, hy, run_eqGuard_agg w .eql t x y xs ys hm, h, Sem.run_bind, Sem.run_pure, Result.andThen_ok]
end Go.Proofs.Ytdlfjbllmmkmkaa.Chair
