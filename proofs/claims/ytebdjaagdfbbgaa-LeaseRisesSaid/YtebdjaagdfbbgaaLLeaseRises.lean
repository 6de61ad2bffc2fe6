/- Only a greater epoch can be taken: for every lease and every epoch the statement's call returns true. -/
import Derived.Test.YtebdjaagdfbbgaaLeaseAlive
import Derived.Deep.RegionHeld3
namespace Go.Proofs.Ytebdjaagdfbbgaa.LLeaseRises
open Go.RowKit LeaseSpec Flat Lease
set_option linter.unusedSimpArgs false
set_option linter.unusedVariables false

theorem take_bad {e s t n : Int} (h : rightB e s t = false ∨ epochB n = false) : take e s t n = (⟨e, s, t⟩, 2) := by
  unfold take
  rcases h with h | h <;> simp [h]
theorem take_good {e s t n : Int} (hr : rightB e s t = true) (hn : epochB n = true) : (n ≤ e → ∃ x, take e s t n = (⟨e, s, t⟩, x) ∧ (x == 0) = false) ∧ (e < n → take e s t n = (⟨n, 1, 0⟩, 0)) := by
  refine ⟨fun h => ?_, fun h => ?_⟩
  · by_cases hs : speaksB e s t n = true
    · exact ⟨8, by simp [take, hr, hn, hs], rfl⟩
    · exact ⟨10, by simp [take, hr, hn, hs, h], rfl⟩
  · have hs : speaksB e s t n = false := by
      simp [speaksB]; intro _ _; omega
    simp [take, hr, hn, hs]; omega

set_option maxHeartbeats 1000000 in
theorem walk (c0 : List Value) (a1 : Int) (w : World) (w0 : Fits [.int .i64, .int .i64, .int .u8] c0) (w1 : (Lit.int .i64 a1).wf = true) :
    Calls Try.prog 7 #[.agg c0.toArray, .int .i64 a1] w fun e w' => e = .returned (.bool true) ∧ Below w.heap.size w w' := by
  obtain ⟨e, _, rfl, _, w0⟩ := w0.int
  obtain ⟨s, _, rfl, _, w0⟩ := w0.int
  obtain ⟨t, _, rfl, _, w0⟩ := w0.int
  obtain rfl := w0.done
  by_cases hbad : rightB e s t = false ∨ epochB a1 = false
  · have ht := take_bad hbad
    rcases hbad with hr | hn
    · go_enter Try.func7, Try.ntmps7
      go_wp2_with fail
      refine (LeaseAlive.alive_any _).mono ?_
      rintro r w1 ⟨rfl, hb1⟩
      obtain ⟨c_hb1, f_hb1, z_hb1⟩ := bcell hb1; have z0_hb1 := z_hb1 (w.heap.size) (by first | omega | (simp only [World.size_alloc, World.size_setCell, World.size_drew] <;> omega)); clear z_hb1
      go_wp2_with fail
      refine (take_any _ _ _ _ _).mono ?_
      rw [ht]
      rintro r w2 ⟨rfl, hb2⟩
      obtain ⟨c_hb2, f_hb2, z_hb2⟩ := bcell hb2; have z0_hb2 := z_hb2 (w.heap.size) (by first | omega | (simp only [World.size_alloc, World.size_setCell, World.size_drew] <;> omega)); clear z_hb2
      go_wp2_with fail
      refine (right_ref _ _ _ _).mono ?_
      rintro r w3 ⟨rfl, hb3⟩
      rw [hr]
      obtain ⟨c_hb3, f_hb3, z_hb3⟩ := bcell hb3; have z0_hb3 := z_hb3 (w.heap.size) (by first | omega | (simp only [World.size_alloc, World.size_setCell, World.size_drew] <;> omega)); have z1_hb3 := z_hb3 (w2.heap.size) (by first | omega | (simp only [World.size_alloc, World.size_setCell, World.size_drew] <;> omega)); clear z_hb3
      go_wp2_with fail
      go_ret
      refine ⟨by first | rfl | (simp [*]; done), ?_⟩
      repeat (first | exact Below.refl _ _ | refine below_alloc ?_ | refine below_drew ?_ | refine below_set ?_ (by first | (simp; done) | (dsimp only; omega)) | refine below_via (by assumption) ?_)
    · go_enter Try.func7, Try.ntmps7
      go_wp2_with fail
      refine (LeaseAlive.alive_any _).mono ?_
      rintro r w1 ⟨rfl, hb1⟩
      obtain ⟨c_hb1, f_hb1, z_hb1⟩ := bcell hb1; have z0_hb1 := z_hb1 (w.heap.size) (by first | omega | (simp only [World.size_alloc, World.size_setCell, World.size_drew] <;> omega)); clear z_hb1
      go_wp2_with fail
      refine (take_any _ _ _ _ _).mono ?_
      rw [ht]
      rintro r w2 ⟨rfl, hb2⟩
      obtain ⟨c_hb2, f_hb2, z_hb2⟩ := bcell hb2; have z0_hb2 := z_hb2 (w.heap.size) (by first | omega | (simp only [World.size_alloc, World.size_setCell, World.size_drew] <;> omega)); clear z_hb2
      go_wp2_with fail
      refine (right_ref _ _ _ _).mono ?_
      rintro r w3 ⟨rfl, hb3⟩
      obtain ⟨c_hb3, f_hb3, z_hb3⟩ := bcell hb3; have z0_hb3 := z_hb3 (w.heap.size) (by first | omega | (simp only [World.size_alloc, World.size_setCell, World.size_drew] <;> omega)); have z1_hb3 := z_hb3 (w2.heap.size) (by first | omega | (simp only [World.size_alloc, World.size_setCell, World.size_drew] <;> omega)); clear z_hb3
      have hn' : a1 < 1 ∨ 1048576 < a1 := by simp [epochB] at hn; omega
      cases hr : rightB e s t
      · go_wp2_with fail
        go_ret
        refine ⟨by first | rfl | (simp [*]; done), ?_⟩
        repeat (first | exact Below.refl _ _ | refine below_alloc ?_ | refine below_drew ?_ | refine below_set ?_ (by first | (simp; done) | (dsimp only; omega)) | refine below_via (by assumption) ?_)
      · by_cases h1 : a1 < 1
        · go_wp2_with fail
          go_ret
          refine ⟨by first | rfl | (simp [*]; done), ?_⟩
          repeat (first | exact Below.refl _ _ | refine below_alloc ?_ | refine below_drew ?_ | refine below_set ?_ (by first | (simp; done) | (dsimp only; omega)) | refine below_via (by assumption) ?_)
        · have h2 : 1048576 < a1 := by omega
          go_wp2_with fail
          go_ret
          refine ⟨by first | rfl | (simp [*]; done), ?_⟩
          repeat (first | exact Below.refl _ _ | refine below_alloc ?_ | refine below_drew ?_ | refine below_set ?_ (by first | (simp; done) | (dsimp only; omega)) | refine below_via (by assumption) ?_)
  · have hr : rightB e s t = true := by cases h : rightB e s t <;> simp_all
    have hn : epochB a1 = true := by cases h : epochB a1 <;> simp_all
    have h12 : 1 ≤ a1 ∧ a1 ≤ 1048576 := by simp [epochB] at hn; omega
    obtain ⟨h1, h2⟩ := h12
    obtain ⟨g1, g2⟩ := take_good hr hn
    by_cases hle : a1 ≤ e
    · obtain ⟨x, ht, hx⟩ := g1 hle
      clear g1 g2
      go_enter Try.func7, Try.ntmps7
      go_wp2_with fail
      refine (LeaseAlive.alive_any _).mono ?_
      rintro r w1 ⟨rfl, hb1⟩
      obtain ⟨c_hb1, f_hb1, z_hb1⟩ := bcell hb1; have z0_hb1 := z_hb1 (w.heap.size) (by first | omega | (simp only [World.size_alloc, World.size_setCell, World.size_drew] <;> omega)); clear z_hb1
      go_wp2_with fail
      refine (take_any _ _ _ _ _).mono ?_
      rw [ht]
      rintro r w2 ⟨rfl, hb2⟩
      obtain ⟨c_hb2, f_hb2, z_hb2⟩ := bcell hb2; have z0_hb2 := z_hb2 (w.heap.size) (by first | omega | (simp only [World.size_alloc, World.size_setCell, World.size_drew] <;> omega)); clear z_hb2
      go_wp2_with fail
      refine (right_ref _ _ _ _).mono ?_
      rintro r w3 ⟨rfl, hb3⟩
      rw [hr]
      obtain ⟨c_hb3, f_hb3, z_hb3⟩ := bcell hb3; have z0_hb3 := z_hb3 (w.heap.size) (by first | omega | (simp only [World.size_alloc, World.size_setCell, World.size_drew] <;> omega)); have z1_hb3 := z_hb3 (w2.heap.size) (by first | omega | (simp only [World.size_alloc, World.size_setCell, World.size_drew] <;> omega)); clear z_hb3
      have hx2 : (x != 0) = true := by simpa using hx
      have hlt : ¬ e < a1 := by omega
      go_wp2_with fail
      go_ret
      refine ⟨by first | rfl | (simp [*]; done), ?_⟩
      repeat (first | exact Below.refl _ _ | refine below_alloc ?_ | refine below_drew ?_ | refine below_set ?_ (by first | (simp; done) | (dsimp only; omega)) | refine below_via (by assumption) ?_)
    · have hlt : e < a1 := by omega
      have ht := g2 hlt
      clear g1 g2
      have hsp : speaksB a1 1 0 a1 = true := by simp [speaksB, rightB, hn]
      go_enter Try.func7, Try.ntmps7
      go_wp2_with fail
      refine (LeaseAlive.alive_any _).mono ?_
      rintro r w1 ⟨rfl, hb1⟩
      obtain ⟨c_hb1, f_hb1, z_hb1⟩ := bcell hb1; have z0_hb1 := z_hb1 (w.heap.size) (by first | omega | (simp only [World.size_alloc, World.size_setCell, World.size_drew] <;> omega)); clear z_hb1
      go_wp2_with fail
      refine (take_any _ _ _ _ _).mono ?_
      rw [ht]
      rintro r w2 ⟨rfl, hb2⟩
      obtain ⟨c_hb2, f_hb2, z_hb2⟩ := bcell hb2; have z0_hb2 := z_hb2 (w.heap.size) (by first | omega | (simp only [World.size_alloc, World.size_setCell, World.size_drew] <;> omega)); clear z_hb2
      go_wp2_with fail
      refine (right_ref _ _ _ _).mono ?_
      rintro r w3 ⟨rfl, hb3⟩
      rw [hr]
      obtain ⟨c_hb3, f_hb3, z_hb3⟩ := bcell hb3; have z0_hb3 := z_hb3 (w.heap.size) (by first | omega | (simp only [World.size_alloc, World.size_setCell, World.size_drew] <;> omega)); have z1_hb3 := z_hb3 (w2.heap.size) (by first | omega | (simp only [World.size_alloc, World.size_setCell, World.size_drew] <;> omega)); clear z_hb3
      go_wp2_with fail
      refine (speaks_any _ _ _ _ _).mono ?_
      rw [hsp]
      rintro r w4 ⟨rfl, hb4⟩
      go_wp2_with fail
      go_ret
      refine ⟨by first | rfl | (simp [*]; done), ?_⟩
      repeat (first | exact Below.refl _ _ | refine below_alloc ?_ | refine below_drew ?_ | refine below_set ?_ (by first | (simp; done) | (dsimp only; omega)) | refine below_via (by assumption) ?_)
end Go.Proofs.Ytebdjaagdfbbgaa.LLeaseRises
