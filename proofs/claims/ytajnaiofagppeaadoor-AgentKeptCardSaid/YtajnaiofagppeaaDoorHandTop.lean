/- What Hear makes of any side and any message, and what it says. -/
import Derived.Test.YtajnaiofagppeaaDoorHandHear
namespace Go.Proofs.YtajnaiofagppeaaDoor.Hand
open Go.RowKit LeaseSpec Flat Lease HandSpec Go.Proofs.YtajnaiofagppeaaDoorW.PrintLast
set_option linter.unusedSimpArgs false
set_option linter.unusedVariables false

theorem said_alloc {w : World} {B : Nat} {v : Value} {m : Option M} {o : Obj} (h : Said w B m v) : Said (w.alloc o) B m v := said_below h ((Below.refl _ _).alloc (Nat.le_refl _) _)
theorem said_drew {w : World} {B : Nat} {v : Value} {m : Option M} (h : Said w B m v) : Said w.drew B m v := said_below h (Below.refl _ _).drew

def HearAPost (x : S) (m : M) (w : World) (r : Ending) (w' : World) : Prop :=
  ∃ v, r = .returned (.tuple #[.agg #[.int .u8 (hearA x m).1.me, .int .i64 (hearA x m).1.e, .int .i64 (hearA x m).1.s, .int .u8 (hearA x m).1.t, .string (hearA x m).1.c, .bool (hearA x m).1.k], v, .int .i64 (hearA x m).2.2]) ∧ Below w.heap.size w w' ∧ Said w' w.heap.size (hearA x m).2.1 v

theorem ha_mk {x y : S} {m : M} {w w' : World} {o : Option M} {v : Value} {n : Int} (hh : hearA x m = (y, o, n)) (hB : Below w.heap.size w w') (hs : Said w' w.heap.size o v) :
    HearAPost x m w (.returned (.tuple #[.agg #[.int .u8 y.me, .int .i64 y.e, .int .i64 y.s, .int .u8 y.t, .string y.c, .bool y.k], v, .int .i64 n])) w' := by
  unfold HearAPost
  rw [hh]
  exact ⟨v, rfl, hB, hs⟩

theorem hearH_err {x : S} {m : M} (hk : m.kind = 1 ∨ m.kind = 2 ∨ m.kind = 3 ∨ m.kind = 4) (h : (hearH x m).2.2 ≠ 0) : hearH x m = (x, none, (hearH x m).2.2) := by
  unfold hearH at h ⊢
  (repeat' split) <;> simp_all

theorem triple_eq {T : S × Option M × Int} (h : T.2.2 = 0) : T = (T.1, T.2.1, 0) := by
  obtain ⟨a, b, n⟩ := T
  dsimp only at h
  rw [h]

set_option maxHeartbeats 8000000 in
set_option maxRecDepth 100000 in
theorem hear_top (x : S) (m : M) (w : World) (hc : x.c.size ≤ maxLen) (hcm : m.c.size ≤ maxLen) :
    Calls Tryd.prog 25 #[.agg #[.int .u8 x.me, .int .i64 x.e, .int .i64 x.s, .int .u8 x.t, .string x.c, .bool x.k], .agg #[.int .i64 m.kind, .int .u8 m.src, .int .u8 m.dst, .int .i64 m.ep, .string m.c]] w (HearAPost x m w) := by
  have HA := Lib.hid (hear_any x m)
  obtain ⟨me, e, s, t, c, k⟩ := x
  obtain ⟨kind, src, dst, ep, mc⟩ := m
  dsimp only at hc hcm HA ⊢
  cases hr : rightS ⟨me, e, s, t, c, k⟩ with
  | false =>
    have hh : hearA ⟨me, e, s, t, c, k⟩ ⟨kind, src, dst, ep, mc⟩ = (⟨me, e, s, t, c, k⟩, none, 2) := by simp [hearA, hr]
    have HH := Lib.hid hh
    clear hh
    go_enter Tryd.func25, Tryd.ntmps25
    go_wp2_with fail
    refine (right_hand ⟨me, e, s, t, c, k⟩ _ hc).mono ?_
    rw [hr]
    rintro r w1 ⟨rfl, hb1⟩
    obtain ⟨c_hb1, f_hb1, z_hb1⟩ := bcell hb1; have z0_hb1 := z_hb1 (w.heap.size) (by first | omega | (simp only [World.size_alloc, World.size_setCell, World.size_drew, World.heap_drewN] <;> omega)); have z1_hb1 := z_hb1 (w.heap.size + 1) (by first | omega | (simp only [World.size_alloc, World.size_setCell, World.size_drew, World.heap_drewN] <;> omega)); have z2_hb1 := z_hb1 (w.heap.size + 2) (by first | omega | (simp only [World.size_alloc, World.size_setCell, World.size_drew, World.heap_drewN] <;> omega)); clear z_hb1
    go_wp2_with fail
    simp [bodyPost, results, Tryd.results25, go_sem, *]
    refine ha_mk HH.out ?_ rfl
    repeat (first | (with_reducible exact Below.refl _ _) | (with_reducible assumption) | (with_reducible refine bw_alloc ?_) | (with_reducible refine bw_drew ?_) | (with_reducible refine bw_drewN ?_) | (with_reducible refine bw_set ?_ (by first | (simp; done) | (dsimp only; omega))) | (with_reducible refine bw_via (by assumption) ?_))
  | true =>
    cases hm : mayM ⟨kind, src, dst, ep, mc⟩ with
    | false =>
      have hh : hearA ⟨me, e, s, t, c, k⟩ ⟨kind, src, dst, ep, mc⟩ = (⟨me, e, s, t, c, k⟩, none, 2) := by simp [hearA, hr, hm]
      have HH := Lib.hid hh
      clear hh
      go_enter Tryd.func25, Tryd.ntmps25
      go_wp2_with fail
      refine (right_hand ⟨me, e, s, t, c, k⟩ _ hc).mono ?_
      rw [hr]
      rintro r w1 ⟨rfl, hb1⟩
      obtain ⟨c_hb1, f_hb1, z_hb1⟩ := bcell hb1; have z0_hb1 := z_hb1 (w.heap.size) (by first | omega | (simp only [World.size_alloc, World.size_setCell, World.size_drew, World.heap_drewN] <;> omega)); have z1_hb1 := z_hb1 (w.heap.size + 1) (by first | omega | (simp only [World.size_alloc, World.size_setCell, World.size_drew, World.heap_drewN] <;> omega)); have z2_hb1 := z_hb1 (w.heap.size + 2) (by first | omega | (simp only [World.size_alloc, World.size_setCell, World.size_drew, World.heap_drewN] <;> omega)); clear z_hb1
      go_wp2_with fail
      refine (may_any ⟨kind, src, dst, ep, mc⟩ _ hcm).mono ?_
      rw [hm]
      rintro r w2 ⟨rfl, hb2⟩
      obtain ⟨c_hb2, f_hb2, z_hb2⟩ := bcell hb2; have z0_hb2 := z_hb2 (w.heap.size) (by first | omega | (simp only [World.size_alloc, World.size_setCell, World.size_drew, World.heap_drewN] <;> omega)); have z1_hb2 := z_hb2 (w.heap.size + 1) (by first | omega | (simp only [World.size_alloc, World.size_setCell, World.size_drew, World.heap_drewN] <;> omega)); have z2_hb2 := z_hb2 (w.heap.size + 2) (by first | omega | (simp only [World.size_alloc, World.size_setCell, World.size_drew, World.heap_drewN] <;> omega)); clear z_hb2
      go_wp2_with fail
      simp [bodyPost, results, Tryd.results25, go_sem, *]
      refine ha_mk HH.out ?_ rfl
      repeat (first | (with_reducible exact Below.refl _ _) | (with_reducible assumption) | (with_reducible refine bw_alloc ?_) | (with_reducible refine bw_drew ?_) | (with_reducible refine bw_drewN ?_) | (with_reducible refine bw_set ?_ (by first | (simp; done) | (dsimp only; omega))) | (with_reducible refine bw_via (by assumption) ?_))
    | true =>
      by_cases hd : dst = me
      · subst hd
        have hd1 : (dst != dst) = false := by simp
        have hA : hearA ⟨dst, e, s, t, c, k⟩ ⟨kind, src, dst, ep, mc⟩ = hearH ⟨dst, e, s, t, c, k⟩ ⟨kind, src, dst, ep, mc⟩ := by simp [hearA, hr, hm]
        have HAA := Lib.hid hA
        clear hA
        go_enter Tryd.func25, Tryd.ntmps25
        go_wp2_with fail
        refine (right_hand ⟨dst, e, s, t, c, k⟩ _ hc).mono ?_
        rw [hr]
        rintro r w1 ⟨rfl, hb1⟩
        obtain ⟨c_hb1, f_hb1, z_hb1⟩ := bcell hb1; have z0_hb1 := z_hb1 (w.heap.size) (by first | omega | (simp only [World.size_alloc, World.size_setCell, World.size_drew, World.heap_drewN] <;> omega)); have z1_hb1 := z_hb1 (w.heap.size + 1) (by first | omega | (simp only [World.size_alloc, World.size_setCell, World.size_drew, World.heap_drewN] <;> omega)); have z2_hb1 := z_hb1 (w.heap.size + 2) (by first | omega | (simp only [World.size_alloc, World.size_setCell, World.size_drew, World.heap_drewN] <;> omega)); clear z_hb1
        go_wp2_with fail
        refine (may_any ⟨kind, src, dst, ep, mc⟩ _ hcm).mono ?_
        rw [hm]
        rintro r w2 ⟨rfl, hb2⟩
        obtain ⟨c_hb2, f_hb2, z_hb2⟩ := bcell hb2; have z0_hb2 := z_hb2 (w.heap.size) (by first | omega | (simp only [World.size_alloc, World.size_setCell, World.size_drew, World.heap_drewN] <;> omega)); have z1_hb2 := z_hb2 (w.heap.size + 1) (by first | omega | (simp only [World.size_alloc, World.size_setCell, World.size_drew, World.heap_drewN] <;> omega)); have z2_hb2 := z_hb2 (w.heap.size + 2) (by first | omega | (simp only [World.size_alloc, World.size_setCell, World.size_drew, World.heap_drewN] <;> omega)); clear z_hb2
        go_wp2_with fail
        refine (HA.out _ hr hm (by first | rfl | trivial) hc).mono ?_
        rintro r w3 ⟨v, y, rfl, hb3, hok⟩
        obtain ⟨c_hb3, f_hb3, z_hb3⟩ := bcell hb3; have z0_hb3 := z_hb3 (w.heap.size) (by first | omega | (simp only [World.size_alloc, World.size_setCell, World.size_drew, World.heap_drewN] <;> omega)); have z1_hb3 := z_hb3 (w.heap.size + 1) (by first | omega | (simp only [World.size_alloc, World.size_setCell, World.size_drew, World.heap_drewN] <;> omega)); have z2_hb3 := z_hb3 (w.heap.size + 2) (by first | omega | (simp only [World.size_alloc, World.size_setCell, World.size_drew, World.heap_drewN] <;> omega)); clear z_hb3
        by_cases h0 : (hearH ⟨dst, e, s, t, c, k⟩ ⟨kind, src, dst, ep, mc⟩).2.2 = 0
        · obtain ⟨rfl, hsaid⟩ := hok h0
          have H0 := Lib.hid h0
          rw [h0]
          clear h0
          go_wp2_with fail
          simp [bodyPost, results, Tryd.results25, go_sem, *]
          refine ha_mk (y := (hearH ⟨dst, e, s, t, c, k⟩ ⟨kind, src, dst, ep, mc⟩).1) (o := (hearH ⟨dst, e, s, t, c, k⟩ ⟨kind, src, dst, ep, mc⟩).2.1) (HAA.out.trans (triple_eq H0.out)) ?_ ?_
          · repeat (first | (with_reducible exact Below.refl _ _) | (with_reducible assumption) | (with_reducible refine bw_alloc ?_) | (with_reducible refine bw_drew ?_) | (with_reducible refine bw_drewN ?_) | (with_reducible refine bw_set ?_ (by first | (simp; done) | (dsimp only; omega))) | (with_reducible refine bw_via (by assumption) ?_))
          · refine said_mono (B := w2.heap.size) ?_ (by omega)
            repeat (first | (with_reducible exact hsaid) | (with_reducible refine said_set ?_ (by omega)) | (with_reducible refine said_alloc ?_) | (with_reducible refine said_drew ?_) | (with_reducible refine said_below ?_ (by assumption)))
        · have hE := hearH_err (may_facts hm).1 h0
          have HE := Lib.hid hE
          have hn0 : ((hearH ⟨dst, e, s, t, c, k⟩ ⟨kind, src, dst, ep, mc⟩).2.2 != 0) = true := by simpa using h0
          clear hE hok h0
          go_wp2_with fail
          simp [bodyPost, results, Tryd.results25, go_sem, *]
          refine ha_mk (y := ⟨dst, e, s, t, c, k⟩) (o := none) (HAA.out.trans HE.out) ?_ rfl
          repeat (first | (with_reducible exact Below.refl _ _) | (with_reducible assumption) | (with_reducible refine bw_alloc ?_) | (with_reducible refine bw_drew ?_) | (with_reducible refine bw_drewN ?_) | (with_reducible refine bw_set ?_ (by first | (simp; done) | (dsimp only; omega))) | (with_reducible refine bw_via (by assumption) ?_))
      · have hh : hearA ⟨me, e, s, t, c, k⟩ ⟨kind, src, dst, ep, mc⟩ = (⟨me, e, s, t, c, k⟩, none, 2) := by simp [hearA, hr, hm, hd]
        have hd1 : (dst != me) = true := by simp [hd]
        have HH := Lib.hid hh
        clear hh
        go_enter Tryd.func25, Tryd.ntmps25
        go_wp2_with fail
        refine (right_hand ⟨me, e, s, t, c, k⟩ _ hc).mono ?_
        rw [hr]
        rintro r w1 ⟨rfl, hb1⟩
        obtain ⟨c_hb1, f_hb1, z_hb1⟩ := bcell hb1; have z0_hb1 := z_hb1 (w.heap.size) (by first | omega | (simp only [World.size_alloc, World.size_setCell, World.size_drew, World.heap_drewN] <;> omega)); have z1_hb1 := z_hb1 (w.heap.size + 1) (by first | omega | (simp only [World.size_alloc, World.size_setCell, World.size_drew, World.heap_drewN] <;> omega)); have z2_hb1 := z_hb1 (w.heap.size + 2) (by first | omega | (simp only [World.size_alloc, World.size_setCell, World.size_drew, World.heap_drewN] <;> omega)); clear z_hb1
        go_wp2_with fail
        refine (may_any ⟨kind, src, dst, ep, mc⟩ _ hcm).mono ?_
        rw [hm]
        rintro r w2 ⟨rfl, hb2⟩
        obtain ⟨c_hb2, f_hb2, z_hb2⟩ := bcell hb2; have z0_hb2 := z_hb2 (w.heap.size) (by first | omega | (simp only [World.size_alloc, World.size_setCell, World.size_drew, World.heap_drewN] <;> omega)); have z1_hb2 := z_hb2 (w.heap.size + 1) (by first | omega | (simp only [World.size_alloc, World.size_setCell, World.size_drew, World.heap_drewN] <;> omega)); have z2_hb2 := z_hb2 (w.heap.size + 2) (by first | omega | (simp only [World.size_alloc, World.size_setCell, World.size_drew, World.heap_drewN] <;> omega)); clear z_hb2
        go_wp2_with fail
        simp [bodyPost, results, Tryd.results25, go_sem, *]
        refine ha_mk HH.out ?_ rfl
        repeat (first | (with_reducible exact Below.refl _ _) | (with_reducible assumption) | (with_reducible refine bw_alloc ?_) | (with_reducible refine bw_drew ?_) | (with_reducible refine bw_drewN ?_) | (with_reducible refine bw_set ?_ (by first | (simp; done) | (dsimp only; omega))) | (with_reducible refine bw_via (by assumption) ?_))
end Go.Proofs.YtajnaiofagppeaaDoor.Hand
