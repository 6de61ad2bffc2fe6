/- The statements' own small functions: the same side, the same messages. -/
import Derived.Test.YtamlkmnkdcoebaaHandAns
import Derived.LoopTactic
import Derived.Deep.LoopGhost
namespace Go.Proofs.Ytamlkmnkdcoebaa.Hand
open Go.RowKit LeaseSpec Flat Lease HandSpec
set_option linter.unusedSimpArgs false
set_option linter.unusedVariables false

theorem theirs_any (x : S) (w : World) : Calls Try.prog 11 #[.agg #[.int .u8 x.me, .int .i64 x.e, .int .i64 x.s, .int .u8 x.t, .string x.c, .bool x.k]] w fun r w' => r = .returned (.agg #[.int .u8 x.me, .int .i64 x.e, .int .i64 x.s, .int .u8 x.t, .string x.c, .bool x.k]) ∧ Below w.heap.size w w' := by
  go_enter Try.func11, Try.ntmps11
  go_wp2_with fail
  simp [bodyPost, results, Try.results11, go_sem, *]
  repeat (first | (with_reducible exact Below.refl _ _) | (with_reducible assumption) | (with_reducible refine bw_alloc ?_) | (with_reducible refine bw_drew ?_) | (with_reducible refine bw_drewN ?_) | (with_reducible refine bw_set ?_ (by first | (simp; done) | (dsimp only; omega))) | (with_reducible refine bw_via (by assumption) ?_))

theorem ours_any (x : S) (w : World) : Calls Try.prog 13 #[.agg #[.int .u8 x.me, .int .i64 x.e, .int .i64 x.s, .int .u8 x.t, .string x.c, .bool x.k]] w fun r w' => r = .returned (.agg #[.int .u8 x.me, .int .i64 x.e, .int .i64 x.s, .int .u8 x.t, .string x.c, .bool x.k]) ∧ Below w.heap.size w w' := by
  go_enter Try.func13, Try.ntmps13
  go_wp2_with fail
  simp [bodyPost, results, Try.results13, go_sem, *]
  repeat (first | (with_reducible exact Below.refl _ _) | (with_reducible assumption) | (with_reducible refine bw_alloc ?_) | (with_reducible refine bw_drew ?_) | (with_reducible refine bw_drewN ?_) | (with_reducible refine bw_set ?_ (by first | (simp; done) | (dsimp only; omega))) | (with_reducible refine bw_via (by assumption) ?_))

theorem same_none (w : World) : Calls Try.prog 14 #[.slice none 0 0, .slice none 0 0] w fun r w' => r = .returned (.bool true) ∧ Below w.heap.size w w' := by
  go_enter Try.func14, Try.ntmps14
  go_wp2_with fail
  refine wp_loop_rounds 1 ?_
  rw [rounds_succ]
  go_wp2_with fail
  go_ret
  refine ⟨rfl, ?_⟩
  repeat (first | (with_reducible exact Below.refl _ _) | (with_reducible assumption) | (with_reducible refine bw_alloc ?_) | (with_reducible refine bw_drew ?_) | (with_reducible refine bw_drewN ?_) | (with_reducible refine bw_set ?_ (by first | (simp; done) | (dsimp only; omega))) | (with_reducible refine bw_via (by assumption) ?_))

set_option maxHeartbeats 4000000 in
theorem same_one (m : M) (g h : Nat) (w : World)
    (g0 : w.cell? ⟨g, 0, none⟩ = some (.int .i64 m.kind)) (g1 : w.cell? ⟨g, 1, none⟩ = some (.int .u8 m.src)) (g2 : w.cell? ⟨g, 2, none⟩ = some (.int .u8 m.dst)) (g3 : w.cell? ⟨g, 3, none⟩ = some (.int .i64 m.ep)) (g4 : w.cell? ⟨g, 4, none⟩ = some (.string m.c))
    (h0 : w.cell? ⟨h, 0, none⟩ = some (.int .i64 m.kind)) (h1 : w.cell? ⟨h, 1, none⟩ = some (.int .u8 m.src)) (h2 : w.cell? ⟨h, 2, none⟩ = some (.int .u8 m.dst)) (h3 : w.cell? ⟨h, 3, none⟩ = some (.int .i64 m.ep)) (h4 : w.cell? ⟨h, 4, none⟩ = some (.string m.c)) :
    Calls Try.prog 14 #[.slice (some ⟨g, 0, none⟩) 1 1, .slice (some ⟨h, 0, none⟩) 1 1] w fun r w' => r = .returned (.bool true) ∧ Below w.heap.size w w' := by
  go_enter Try.func14, Try.ntmps14
  go_wp2_with fail
  refine wp_loop_rounds 2 ?_
  rw [rounds_succ]
  go_wp2_with fail
  go_quiet (fail)
  go_wp2_with fail
  rw [rounds_succ]
  go_wp2_with fail
  go_ret
  refine ⟨rfl, ?_⟩
  repeat (first | (with_reducible exact Below.refl _ _) | (with_reducible assumption) | (with_reducible refine bw_alloc ?_) | (with_reducible refine bw_drew ?_) | (with_reducible refine bw_drewN ?_) | (with_reducible refine bw_set ?_ (by first | (simp; done) | (dsimp only; omega))) | (with_reducible refine bw_via (by assumption) ?_))

theorem same_any (o : Option M) (va vb : Value) (B B' : Nat) (w : World) (ha : Said w B o va) (hb : Said w B' o vb) :
    Calls Try.prog 14 #[va, vb] w fun r w' => r = .returned (.bool true) ∧ Below w.heap.size w w' := by
  cases o with
  | none =>
    have e1 : va = .slice none 0 0 := ha
    have e2 : vb = .slice none 0 0 := hb
    rw [e1, e2]
    exact same_none w
  | some m =>
    obtain ⟨g, hv, _, _, g0, g1, g2, g3, g4⟩ := ha
    obtain ⟨h, hv', _, _, h0, h1, h2, h3, h4⟩ := hb
    rw [hv, hv']
    exact same_one m g h w g0 g1 g2 g3 g4 h0 h1 h2 h3 h4
end Go.Proofs.Ytamlkmnkdcoebaa.Hand
