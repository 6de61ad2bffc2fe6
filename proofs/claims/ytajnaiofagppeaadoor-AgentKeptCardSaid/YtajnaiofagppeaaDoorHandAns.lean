/- What package hand's functions, and the reference's, say. -/
import Derived.Test.YtajnaiofagppeaaDoorHand
import Derived.RegionTactic
import Derived.Lib.Hide
namespace Go.Proofs.YtajnaiofagppeaaDoor.Hand
open Go.RowKit LeaseSpec Flat Lease HandSpec
set_option linter.unusedSimpArgs false
set_option linter.unusedVariables false

/-- A row of one message, or of none, in memory from block B on. -/
def Said (w' : World) (B : Nat) : Option M → Value → Prop
  | none, v => v = .slice none 0 0
  | some m, v => ∃ g, v = .slice (some ⟨g, 0, none⟩) 1 1 ∧ B ≤ g ∧ g < w'.heap.size ∧ w'.cell? ⟨g, 0, none⟩ = some (.int .i64 m.kind) ∧ w'.cell? ⟨g, 1, none⟩ = some (.int .u8 m.src) ∧
      w'.cell? ⟨g, 2, none⟩ = some (.int .u8 m.dst) ∧ w'.cell? ⟨g, 3, none⟩ = some (.int .i64 m.ep) ∧ w'.cell? ⟨g, 4, none⟩ = some (.string m.c)

theorem right_le {x : S} (h : rightS x = true) : 0 ≤ x.e ∧ x.e ≤ 1048576 := by
  have hr : rightB x.e x.s x.t = true := by
    cases h' : rightB x.e x.s x.t
    · simp [rightS, h'] at h
    · rfl
  unfold rightB epochB at hr
  split at hr
  · simp at hr; omega
  · split at hr
    · simp at hr; omega
    · split at hr
      · simp at hr; omega
      · simp at hr

def AgainPost (x : S) (w : World) (r : Ending) (w' : World) : Prop := ∃ v, r = .returned v ∧ Said w' w.heap.size (againH x) v ∧ Below w.heap.size w w'

theorem said_box {w W : World} {m : M} (hB : w.heap.size ≤ W.heap.size) : Said (W.alloc (.cells #[.int .i64 m.kind, .int .u8 m.src, .int .u8 m.dst, .int .i64 m.ep, .string m.c] 72)) w.heap.size (some m) (.slice (some ⟨W.heap.size, 0, none⟩) 1 1) := by
  refine ⟨W.heap.size, rfl, hB, by simp, ?_⟩
  simp [go_sem]

set_option maxHeartbeats 4000000 in
theorem again_any (x : S) (w : World) (hc : x.c.size ≤ maxLen) : Calls Tryd.prog 76 #[.agg #[.int .u8 x.me, .int .i64 x.e, .int .i64 x.s, .int .u8 x.t, .string x.c, .bool x.k]] w (AgainPost x w) := by
  obtain ⟨me, e, s, t, c, k⟩ := x
  dsimp only at hc ⊢
  have hm : c.size ≤ maxLen := hc
  unfold maxLen at hc
  cases hr : rightS ⟨me, e, s, t, c, k⟩ with
  | false =>
    go_enter Tryd.func76, Tryd.ntmps76
    go_wp2_with fail
    refine (right_hand ⟨me, e, s, t, c, k⟩ _ hm).mono ?_
    rw [hr]
    rintro r w' ⟨rfl, hb⟩
    obtain ⟨c_hb, f_hb, z_hb⟩ := bcell hb; have z0_hb := z_hb (w.heap.size) (by first | omega | (simp only [World.size_alloc, World.size_setCell, World.size_drew, World.heap_drewN] <;> omega)); clear z_hb
    go_wp2_with fail
    go_ret
    refine ⟨_, rfl, ?_, ?_⟩
    · simp [againH, hr, Said]
    · repeat (first | (with_reducible exact Below.refl _ _) | (with_reducible assumption) | (with_reducible refine bw_alloc ?_) | (with_reducible refine bw_drew ?_) | (with_reducible refine bw_drewN ?_) | (with_reducible refine bw_set ?_ (by first | (simp; done) | (dsimp only; omega))) | (with_reducible refine bw_via (by assumption) ?_))
  | true =>
    obtain ⟨he1, he2⟩ := right_le hr
    dsimp only at he1 he2
    cases k with
    | false =>
      go_enter Tryd.func76, Tryd.ntmps76
      go_wp2_with fail
      refine (right_hand ⟨me, e, s, t, c, false⟩ _ hm).mono ?_
      rw [hr]
      rintro r w' ⟨rfl, hb⟩
      obtain ⟨c_hb, f_hb, z_hb⟩ := bcell hb; have z0_hb := z_hb (w.heap.size) (by first | omega | (simp only [World.size_alloc, World.size_setCell, World.size_drew, World.heap_drewN] <;> omega)); clear z_hb
      go_wp2_with fail
      go_ret
      refine ⟨_, rfl, ?_, ?_⟩
      · simp [againH, hr, Said]
      · repeat (first | (with_reducible exact Below.refl _ _) | (with_reducible assumption) | (with_reducible refine bw_alloc ?_) | (with_reducible refine bw_drew ?_) | (with_reducible refine bw_drewN ?_) | (with_reducible refine bw_set ?_ (by first | (simp; done) | (dsimp only; omega))) | (with_reducible refine bw_via (by assumption) ?_))
    | true =>
      go_enter Tryd.func76, Tryd.ntmps76
      go_wp2_with fail
      refine (right_hand ⟨me, e, s, t, c, true⟩ _ hm).mono ?_
      rw [hr]
      rintro r w' ⟨rfl, hb⟩
      obtain ⟨c_hb, f_hb, z_hb⟩ := bcell hb; have z0_hb := z_hb (w.heap.size) (by first | omega | (simp only [World.size_alloc, World.size_setCell, World.size_drew, World.heap_drewN] <;> omega)); clear z_hb
      have hs : w.heap.size ≤ w'.heap.size := by omega
      go_wp2_with fail
      go_ret
      refine ⟨_, rfl, ?_, ?_⟩
      · simp only [againH, hr]
        exact said_box (m := givesH ⟨me, e, s, t, c, true⟩) hs
      · repeat (first | (with_reducible exact Below.refl _ _) | (with_reducible assumption) | (with_reducible refine bw_alloc ?_) | (with_reducible refine bw_drew ?_) | (with_reducible refine bw_drewN ?_) | (with_reducible refine bw_set ?_ (by first | (simp; done) | (dsimp only; omega))) | (with_reducible refine bw_via (by assumption) ?_))
end Go.Proofs.YtajnaiofagppeaaDoor.Hand
