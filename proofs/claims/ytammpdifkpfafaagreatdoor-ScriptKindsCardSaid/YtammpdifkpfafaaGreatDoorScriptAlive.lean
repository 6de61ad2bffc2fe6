/- Two steps compared; alive answers true. -/
import Derived.Test.YtammpdifkpfafaaGreatDoorRunAlive
namespace Go.Proofs.YtammpdifkpfafaaGreatDoor.News
open Go.RowKit Flat Go.Proofs.YtammpdifkpfafaaGreatDoorW.PrintLast ByteMem ScriptSpec
set_option linter.unusedSimpArgs false
set_option linter.unusedVariables false
set_option maxRecDepth 100000
theorem step_same (s : St) (w : World) : (binOp .neq 30 (.agg #[.int .i64 s.what, .int .i64 s.tx, .int .u8 s.a, .int .u8 s.b, .int .i64 s.kind, .int .u8 s.key, .int .i64 s.n]) (.agg #[.int .i64 s.what, .int .i64 s.tx, .int .u8 s.a, .int .u8 s.b, .int .i64 s.kind, .int .u8 s.key, .int .i64 s.n])).run Tryz.prog w = .ok (.bool false) w := by
  simp [go_sem]
theorem rstep_same (s : St) (w : World) : (binOp .neq 29 (.agg #[.int .i64 s.what, .int .i64 s.tx, .int .u8 s.a, .int .u8 s.b, .int .i64 s.kind, .int .u8 s.key, .int .i64 s.n]) (.agg #[.int .i64 s.what, .int .i64 s.tx, .int .u8 s.a, .int .u8 s.b, .int .i64 s.kind, .int .u8 s.key, .int .i64 s.n])).run Tryz.prog w = .ok (.bool false) w := by
  simp [go_sem]
theorem step_eq (s : St) (w : World) : (binOp .eql 30 (.agg #[.int .i64 s.what, .int .i64 s.tx, .int .u8 s.a, .int .u8 s.b, .int .i64 s.kind, .int .u8 s.key, .int .i64 s.n]) (.agg #[.int .i64 s.what, .int .i64 s.tx, .int .u8 s.a, .int .u8 s.b, .int .i64 s.kind, .int .u8 s.key, .int .i64 s.n])).run Tryz.prog w = .ok (.bool true) w := by
  simp [go_sem]
/-- Bytes laid as a slice's cells. -/
theorem isb_alloc (w : World) (t : TypeId) (l : List UInt8) (cs : Array Value) (hcs : ∀ i (h : i < l.length), cs[i]? = some (.int .u8 (l[i].toNat : Int))) : IsB (w.alloc (.cells cs t)) (w.alloc (.cells cs t)).heap.size (some ⟨w.heap.size, 0, none⟩) l := by
  intro hl
  refine ⟨w.heap.size, 0, rfl, by simp, fun i hi => ?_⟩
  rw [World.cell?_alloc_new, Nat.zero_add]
  exact hcs i hi
theorem ans_cells {w : World} {B : Nat} {v : Value} (h : w.ownsRow B 44 2 v 2 (ans 2)) : ∃ ga ca, v = .slice (some ⟨ga, 0, none⟩) 2 ca ∧ w.cell? ⟨ga, 1, none⟩ = some (.int .i64 0) ∧ w.cell? ⟨ga, 3, none⟩ = some (.int .i64 7) := by
  have hc := fun g => World.ownsRow.cells (g := g) h
  rcases h.2 with ⟨h1, h2⟩ | ⟨g, cap, cur, h1, _⟩
  · simp [ans] at h2
  · subst h1
    exact ⟨g, cap, rfl, hc g rfl 1 _ rfl, hc g rfl 3 _ rfl⟩
set_option maxHeartbeats 4000000 in
theorem alive_any (w : World) : Calls Tryz.prog 8 #[] w fun r w' => r = .returned (.bool true) ∧ Below w.heap.size w w' := by
  have HS1 := Lib.hid (fun W => step_eq ⟨4, 0, 1, 2, 0, 0, 0⟩ W)
  have HS2 := Lib.hid (fun W => step_eq ⟨2, 7, 0, 0, 3, 1, 5⟩ W)
  go_enter Tryz.func8, Tryz.ntmps8
  go_wp2_with fail
  have hd := Script.decode_any (w.alloc (.cells #[.int .u8 4, .int .u8 1, .int .u8 2, .int .u8 2, .int .u8 0, .int .u8 7, .int .u8 3, .int .u8 1, .int .u8 133, .int .u8 0, .int .u8 8] 5)) (some ⟨w.heap.size, 0, none⟩) [4, 1, 2, 2, 0, 7, 3, 1, 133, 0, 8] 11 (isb_alloc _ _ _ _ (by
    intro i hi
    have hi' : i < 11 := hi
    rcases (by omega : i = 0 ∨ i = 1 ∨ i = 2 ∨ i = 3 ∨ i = 4 ∨ i = 5 ∨ i = 6 ∨ i = 7 ∨ i = 8 ∨ i = 9 ∨ i = 10) with rfl | rfl | rfl | rfl | rfl | rfl | rfl | rfl | rfl | rfl | rfl <;> rfl)) (by decide) (by decide)
  refine hd.mono ?_
  rintro r v2 ⟨v, rfl, hos, hb2⟩
  rw [dec_alive] at hos
  obtain ⟨gd, capd, rfl, hcd0, hcd1, hgd0, hgd1, hst⟩ := Script.owns_read hos (by decide)
  have s0 := hst 0 (by decide)
  have s1 := hst 1 (by decide)
  have hb1 : Below w.heap.size w (w.alloc (.cells #[.int .u8 4, .int .u8 1, .int .u8 2, .int .u8 2, .int .u8 0, .int .u8 7, .int .u8 3, .int .u8 1, .int .u8 133, .int .u8 0, .int .u8 8] 5)) := (Below.refl _ _).alloc (Nat.le_refl _) _
  have HB2 := Lib.hid (hb1.trans (hb2.mono (by simp)))
  have hc2 : 2 ≤ capd := hcd0
  have S0 := Lib.hid s0
  have S1 := Lib.hid s1
  clear hst hos hb1 hb2 hd s0 s1 hcd0
  go_wp2_with fail
  have hr := run_alive (v2.alloc (.cells #[.int .u8 11, .int .u8 9, .int .u8 4, .int .u8 3, .int .u8 0] 5)) v2.heap.size (isb_alloc _ _ _ _ (by
    intro i hi
    have hi' : i < 5 := hi
    rcases (by omega : i = 0 ∨ i = 1 ∨ i = 2 ∨ i = 3 ∨ i = 4) with rfl | rfl | rfl | rfl | rfl <;> rfl))
  refine hr.mono ?_
  rintro r v4 ⟨g, gc, va, rfl, hoa, n1, n2, hb4⟩
  clear hr
  obtain ⟨ga, ca, rfl, a1, a3⟩ := ans_cells hoa
  have hb24 : Below v2.heap.size v2 v4 := ((Below.refl _ _).alloc (Nat.le_refl _) _).trans (hb4.mono (by simp))
  have d0 := fun o => hb24.cell (p := ⟨gd, o, none⟩) hgd1
  have q0 := (d0 0).trans S0.out.1
  have q1 := (d0 1).trans S0.out.2.1
  have q2 := (d0 2).trans S0.out.2.2.1
  have q3 := (d0 3).trans S0.out.2.2.2.1
  have q4 := (d0 4).trans S0.out.2.2.2.2.1
  have q5 := (d0 5).trans S0.out.2.2.2.2.2.1
  have q6 := (d0 6).trans S0.out.2.2.2.2.2.2
  have q7 := (d0 7).trans S1.out.1
  have q8 := (d0 8).trans S1.out.2.1
  have q9 := (d0 9).trans S1.out.2.2.1
  have q10 := (d0 10).trans S1.out.2.2.2.1
  have q11 := (d0 11).trans S1.out.2.2.2.2.1
  have q12 := (d0 12).trans S1.out.2.2.2.2.2.1
  have q13 := (d0 13).trans S1.out.2.2.2.2.2.2
  have HB4 := Lib.hid (HB2.out.trans (hb24.mono HB2.out.size))
  simp only [List.getElem_cons_zero, List.getElem_cons_succ, List.length_cons, List.length_nil, Nat.zero_add, Nat.reduceAdd] at q0 q1 q2 q3 q4 q5 q6 q7 q8 q9 q10 q11 q12 q13 ⊢
  have hs1 := HS1.out v4
  have hs2 := HS2.out v4
  have HNOW := Lib.hid (world_now g gc 9 v4 n1 n2)
  clear d0 hb24 hb4 hoa S0 S1 HB2 HS1 HS2 n1 n2
  go_wp2_with fail
  refine HNOW.out.mono ?_
  rintro r v5 ⟨rfl, rfl⟩
  go_wp2_with fail
  go_ret
  exact ⟨rfl, HB4.out⟩
end Go.Proofs.YtammpdifkpfafaaGreatDoor.News
