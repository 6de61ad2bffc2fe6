/- The statements' own small functions over sides: the same side, and whether two are alike. -/
import Derived.Test.YtajnaiofagppeaaDoorHand
import Derived.Test.YtajnaiofagppeaaDoorBallot
namespace Go.Proofs.YtajnaiofagppeaaDoor.AgentSmall
open Go Go.RowKit LeaseSpec Flat HandSpec
set_option linter.unusedSimpArgs false
set_option linter.unusedVariables false

theorem side_any (x : S) (w : World) : Calls Tryd.prog 17 #[.agg #[.int .u8 x.me, .int .i64 x.e, .int .i64 x.s, .int .u8 x.t, .string x.c, .bool x.k]] w fun r w' => r = .returned (.agg #[.int .u8 x.me, .int .i64 x.e, .int .i64 x.s, .int .u8 x.t, .string x.c, .bool x.k]) ∧ Below w.heap.size w w' := by
  go_enter Tryd.func17, Tryd.ntmps17
  go_wp2_with fail
  simp [bodyPost, results, Tryd.results17, go_sem, *]
  repeat (first | (with_reducible exact Below.refl _ _) | (with_reducible assumption) | (with_reducible refine bw_alloc ?_) | (with_reducible refine bw_drew ?_) | (with_reducible refine bw_drewN ?_) | (with_reducible refine bw_set ?_ (by first | (simp; done) | (dsimp only; omega))) | (with_reducible refine bw_via (by assumption) ?_))

theorem ours_any (x : S) (w : World) : Calls Tryd.prog 21 #[.agg #[.int .u8 x.me, .int .i64 x.e, .int .i64 x.s, .int .u8 x.t, .string x.c, .bool x.k]] w fun r w' => r = .returned (.agg #[.int .u8 x.me, .int .i64 x.e, .int .i64 x.s, .int .u8 x.t, .string x.c, .bool x.k]) ∧ Below w.heap.size w w' := by
  go_enter Tryd.func21, Tryd.ntmps21
  go_wp2_with fail
  simp [bodyPost, results, Tryd.results21, go_sem, *]
  repeat (first | (with_reducible exact Below.refl _ _) | (with_reducible assumption) | (with_reducible refine bw_alloc ?_) | (with_reducible refine bw_drew ?_) | (with_reducible refine bw_drewN ?_) | (with_reducible refine bw_set ?_ (by first | (simp; done) | (dsimp only; omega))) | (with_reducible refine bw_via (by assumption) ?_))
theorem ba_eq {a b : ByteArray} (h : a.toList = b.toList) : a = b := by
  rw [ByteArray.toList_eq, ByteArray.toList_eq] at h
  cases a; cases b
  simpa using h
def sB (a b : S) : Bool := decide (a = b)
theorem sB_same (a : S) : sB a a = true := by simp [sB]
set_option maxHeartbeats 1000000 in
theorem hside_eq (a b : S) (w : World) : (binOp .eql 45 (.agg #[.int .u8 a.me, .int .i64 a.e, .int .i64 a.s, .int .u8 a.t, .string a.c, .bool a.k]) (.agg #[.int .u8 b.me, .int .i64 b.e, .int .i64 b.s, .int .u8 b.t, .string b.c, .bool b.k])).run Tryd.prog w = .ok (.bool (sB a b)) w := by
  obtain ⟨a1, a2, a3, a4, a5, a6⟩ := a; obtain ⟨b1, b2, b3, b4, b5, b6⟩ := b; dsimp only; unfold sB; exact (by by_cases h1 : a1 = b1; rotate_left; (simp [go_sem, h1]); subst h1; by_cases h2 : a2 = b2; rotate_left; (simp [go_sem, h2]); subst h2; by_cases h3 : a3 = b3; rotate_left; (simp [go_sem, h3]); subst h3; by_cases h4 : a4 = b4; rotate_left; (simp [go_sem, h4]); subst h4; by_cases h5 : a5 = b5; rotate_left; (have h5' : ¬ a5.toList = b5.toList := fun h => h5 (ba_eq h); simp [go_sem, h5, h5']); subst h5; by_cases h6 : a6 = b6; rotate_left; (simp [go_sem, h6]); subst h6; simp [go_sem])
set_option maxHeartbeats 1000000 in
theorem rside_eq (a b : S) (w : World) : (binOp .eql 40 (.agg #[.int .u8 a.me, .int .i64 a.e, .int .i64 a.s, .int .u8 a.t, .string a.c, .bool a.k]) (.agg #[.int .u8 b.me, .int .i64 b.e, .int .i64 b.s, .int .u8 b.t, .string b.c, .bool b.k])).run Tryd.prog w = .ok (.bool (sB a b)) w := by
  obtain ⟨a1, a2, a3, a4, a5, a6⟩ := a; obtain ⟨b1, b2, b3, b4, b5, b6⟩ := b; dsimp only; unfold sB; exact (by by_cases h1 : a1 = b1; rotate_left; (simp [go_sem, h1]); subst h1; by_cases h2 : a2 = b2; rotate_left; (simp [go_sem, h2]); subst h2; by_cases h3 : a3 = b3; rotate_left; (simp [go_sem, h3]); subst h3; by_cases h4 : a4 = b4; rotate_left; (simp [go_sem, h4]); subst h4; by_cases h5 : a5 = b5; rotate_left; (have h5' : ¬ a5.toList = b5.toList := fun h => h5 (ba_eq h); simp [go_sem, h5, h5']); subst h5; by_cases h6 : a6 = b6; rotate_left; (simp [go_sem, h6]); subst h6; simp [go_sem])
/-! ### A side in memory -/
def Six (w : World) (g : Nat) (x : S) : Prop :=
  (w.cell? ⟨g, 0, none⟩ = some (.int .u8 x.me) ∧ w.cell? ⟨g, 1, none⟩ = some (.int .i64 x.e) ∧ w.cell? ⟨g, 2, none⟩ = some (.int .i64 x.s) ∧ w.cell? ⟨g, 3, none⟩ = some (.int .u8 x.t) ∧ w.cell? ⟨g, 4, none⟩ = some (.string x.c) ∧ w.cell? ⟨g, 5, none⟩ = some (.bool x.k)) ∧
  (∀ o, w.frozen? ⟨g, o, none⟩ = false) ∧ g < w.heap.size
theorem six_new {w W : World} {x : S} {t : TypeId} (h : w.alloc (.cells #[.int .u8 x.me, .int .i64 x.e, .int .i64 x.s, .int .u8 x.t, .string x.c, .bool x.k] t) = W) : Six W w.heap.size x := by
  obtain ⟨hb, hz, hc⟩ := alloc_facts h
  exact ⟨⟨hc 0, hc 1, hc 2, hc 3, hc 4, hc 5⟩, fun o => by rw [← h]; exact World.frozen?_alloc_at _ _ _ _ rfl, hz⟩
theorem Six.under {w w' : World} {g C : Nat} {x : S} (h : Six w g x) (hb : Below C w w') (hC : g < C) : Six w' g x := by
  obtain ⟨⟨a0, a1, a2, a3, a4, a5⟩, f, hz⟩ := h
  exact ⟨⟨(hb.cell (p := ⟨g, 0, none⟩) hC).trans a0, (hb.cell (p := ⟨g, 1, none⟩) hC).trans a1, (hb.cell (p := ⟨g, 2, none⟩) hC).trans a2, (hb.cell (p := ⟨g, 3, none⟩) hC).trans a3, (hb.cell (p := ⟨g, 4, none⟩) hC).trans a4, (hb.cell (p := ⟨g, 5, none⟩) hC).trans a5⟩,
    fun o => (World.frozen?_of_block (a := ⟨g, o, none⟩) (hb.block g hC)).trans (f o), Nat.lt_of_lt_of_le hz hb.size⟩
theorem Six.below {w w' : World} {g : Nat} {x : S} (h : Six w g x) (hb : Below w.heap.size w w') : Six w' g x := h.under hb h.2.2
theorem six_set {w W : World} {g : Nat} {x y : S} (h : Six w g x)
    (hW : (((((w.setCell ⟨g, 0, none⟩ (.int .u8 y.me)).setCell ⟨g, 1, none⟩ (.int .i64 y.e)).setCell ⟨g, 2, none⟩ (.int .i64 y.s)).setCell ⟨g, 3, none⟩ (.int .u8 y.t)).setCell ⟨g, 4, none⟩ (.string y.c)).setCell ⟨g, 5, none⟩ (.bool y.k) = W) :
    Six W g y ∧ Below g w W ∧ W.heap.size = w.heap.size ∧ ∀ b, b ≠ g → W.heap[b]? = w.heap[b]? := by
  obtain ⟨⟨a0, a1, a2, a3, a4, a5⟩, f, hz⟩ := h
  subst hW
  refine ⟨⟨⟨?_, ?_, ?_, ?_, ?_, ?_⟩, fun o => ?_, ?_⟩, ?_, ?_, fun b hb => ?_⟩
  · simp [go_sem, a0, a1, a2, a3, a4, a5]
  · simp [go_sem, a0, a1, a2, a3, a4, a5]
  · simp [go_sem, a0, a1, a2, a3, a4, a5]
  · simp [go_sem, a0, a1, a2, a3, a4, a5]
  · simp [go_sem, a0, a1, a2, a3, a4, a5]
  · simp [go_sem, a0, a1, a2, a3, a4, a5]
  · simp [go_sem, f]
  · simpa using hz
  · exact (((((((Below.refl g w).setCell (p := ⟨g, 0, none⟩) (Nat.le_refl g) _).setCell (p := ⟨g, 1, none⟩) (Nat.le_refl g) _).setCell (p := ⟨g, 2, none⟩) (Nat.le_refl g) _).setCell (p := ⟨g, 3, none⟩) (Nat.le_refl g) _).setCell (p := ⟨g, 4, none⟩) (Nat.le_refl g) _).setCell (p := ⟨g, 5, none⟩) (Nat.le_refl g) _)
  · simp
  · exact (Below.heap_setCell _ ⟨g, 5, none⟩ _ b hb).trans ((Below.heap_setCell _ ⟨g, 4, none⟩ _ b hb).trans ((Below.heap_setCell _ ⟨g, 3, none⟩ _ b hb).trans ((Below.heap_setCell _ ⟨g, 2, none⟩ _ b hb).trans ((Below.heap_setCell _ ⟨g, 1, none⟩ _ b hb).trans (Below.heap_setCell _ ⟨g, 0, none⟩ _ b hb)))))
end Go.Proofs.YtajnaiofagppeaaDoor.AgentSmall
