/- What terms.New and terms.Extend answer. -/
import Derived.Test.YtdlfjbllmmkmkaaTerms
namespace Go.Proofs.Ytdlfjbllmmkmkaa.Chair
open Go.RowKit Flat ChairSpec Go.Proofs.YtdlfjbllmmkmkaaW.PrintLast
set_option linter.unusedSimpArgs false
set_option linter.unusedVariables false
set_option maxRecDepth 100000
/-- Two blocks laid, one behind the other. -/
theorem two_blocks {w v2 : World} {A B : Array Value} {t1 t2 : TypeId} (h : (w.alloc (.cells A t1)).alloc (.cells B t2) = v2) :
    Below w.heap.size w v2 ∧ w.heap.size + 1 < v2.heap.size ∧ (∀ i, v2.cell? ⟨w.heap.size, i, none⟩ = A[i]?) ∧ (∀ i, v2.cell? ⟨w.heap.size + 1, i, none⟩ = B[i]?) ∧ (∀ i, v2.frozen? ⟨w.heap.size, i, none⟩ = false) ∧ (∀ i, v2.frozen? ⟨w.heap.size + 1, i, none⟩ = false) := by
  subst h
  have hs : (w.alloc (.cells A t1)).heap.size = w.heap.size + 1 := by simp
  have hb : Below (w.alloc (.cells A t1)).heap.size (w.alloc (.cells A t1)) ((w.alloc (.cells A t1)).alloc (.cells B t2)) := (Below.refl _ _).alloc (Nat.le_refl _) _
  have hb0 : Below w.heap.size w (w.alloc (.cells A t1)) := (Below.refl _ _).alloc (Nat.le_refl _) _
  refine ⟨hb0.trans (hb.mono (by omega)), by simp, fun i => (hb.cell (p := ⟨w.heap.size, i, none⟩) (by rw [hs]; exact Nat.lt_succ_self _)).trans (World.cell?_alloc_new ..), fun i => ?_, fun i => (hb.frozen (p := ⟨w.heap.size, i, none⟩) (by rw [hs]; exact Nat.lt_succ_self _)).trans (World.frozen?_alloc_at _ _ _ _ rfl), fun i => World.frozen?_alloc_at _ _ _ _ (by rw [hs])⟩
  have := World.cell?_alloc_new (w := w.alloc (.cells A t1)) B t2 i
  rwa [hs] at this
theorem two_after {w v2 v3 : World} {A B : Array Value} {t1 t2 : TypeId} (h : (w.alloc (.cells A t1)).alloc (.cells B t2) = v2) (hb : Below v2.heap.size v2 v3) :
    Below w.heap.size w v3 ∧ w.heap.size + 1 < v3.heap.size ∧ (∀ i, v3.cell? ⟨w.heap.size, i, none⟩ = A[i]?) ∧ (∀ i, v3.cell? ⟨w.heap.size + 1, i, none⟩ = B[i]?) ∧ (∀ i, v3.frozen? ⟨w.heap.size, i, none⟩ = false) ∧ (∀ i, v3.frozen? ⟨w.heap.size + 1, i, none⟩ = false) := by
  obtain ⟨h1, h2, h3, h4, h5, h6⟩ := two_blocks h
  have hl : w.heap.size < v2.heap.size := by omega
  exact ⟨h1.trans (hb.mono (by omega)), Nat.lt_of_lt_of_le h2 hb.size, fun i => (hb.cell (p := ⟨w.heap.size, i, none⟩) hl).trans (h3 i), fun i => (hb.cell (p := ⟨w.heap.size + 1, i, none⟩) h2).trans (h4 i), fun i => (hb.frozen (p := ⟨w.heap.size, i, none⟩) hl).trans (h5 i), fun i => (hb.frozen (p := ⟨w.heap.size + 1, i, none⟩) h2).trans (h6 i)⟩
theorem new_ways (now span most : Int) (h : now < 0 ∨ 1099511627776 < now ∨ span < 1 ∨ 1048576 < span ∨ most < 0 ∨ 100 < most) : now < 0 ∨ (¬ now < 0 ∧ 1099511627776 < now) ∨ (¬ now < 0 ∧ ¬ 1099511627776 < now ∧ span < 1) ∨ (¬ now < 0 ∧ ¬ 1099511627776 < now ∧ ¬ span < 1 ∧ 1048576 < span) ∨
    (¬ now < 0 ∧ ¬ 1099511627776 < now ∧ ¬ span < 1 ∧ ¬ 1048576 < span ∧ most < 0) ∨ (¬ now < 0 ∧ ¬ 1099511627776 < now ∧ ¬ span < 1 ∧ ¬ 1048576 < span ∧ ¬ most < 0 ∧ 100 < most) := by omega
set_option maxHeartbeats 4000000 in
theorem new_te (now span most : Int) (w : World) : Calls Try.prog 43 #[.int .i64 now, .int .i64 span, .int .i64 most] w fun r w' => r = .returned (.tuple #[.agg #[.int .i64 (newTe now span most).1.dl, .int .i64 (newTe now span most).1.span, .int .i64 (newTe now span most).1.used, .int .i64 (newTe now span most).1.cap], .int .i64 (newTe now span most).2]) ∧ Below w.heap.size w w' := by
  by_cases hb : now < 0 ∨ 1099511627776 < now ∨ span < 1 ∨ 1048576 < span ∨ most < 0 ∨ 100 < most
  · have HN : newTe now span most = (⟨0, 0, 0, 0⟩, 2) := by rw [newTe, if_pos hb]
    simp only [HN]
    rcases new_ways now span most hb with h | ⟨h1, h⟩ | ⟨h1, h2, h⟩ | ⟨h1, h2, h3, h⟩ | ⟨h1, h2, h3, h4, h⟩ | ⟨h1, h2, h3, h4, h5, h⟩
    all_goals
      clear hb HN
      go_enter Try.func43, Try.ntmps43
      go_wp2_with fail
      simp [bodyPost, results, Try.results43, go_sem, *]
      repeat (first | (with_reducible exact Below.refl _ _) | (with_reducible assumption) | (with_reducible refine bw_alloc ?_) | (with_reducible refine bw_drew ?_) | (with_reducible refine bw_drewN ?_) | (with_reducible refine bw_set ?_ (by first | (simp; done) | (dsimp only; omega))) | (with_reducible refine bw_via (by assumption) ?_))
  · have n1 : ¬ now < 0 := by omega
    have n2 : ¬ (1099511627776 : Int) < now := by omega
    have n3 : ¬ span < 1 := by omega
    have n4 : ¬ (1048576 : Int) < span := by omega
    have n5 : ¬ most < 0 := by omega
    have n6 : ¬ (100 : Int) < most := by omega
    have hN : newTe now span most = if rightTe ⟨now + span, span, 0, most⟩ then (⟨now + span, span, 0, most⟩, 0) else (⟨0, 0, 0, 0⟩, 3) := by rw [newTe, if_neg hb]
    have hwr : wrap64 (now + span) = now + span := by unfold wrap64; omega
    have HR := Lib.hid (fun W => right_te ⟨now + span, span, 0, most⟩ W)
    rw [hN]
    clear hN hb
    cases hr : rightTe ⟨now + span, span, 0, most⟩
    all_goals
      simp only [hr] at HR
      simp only [if_true, Bool.false_eq_true, if_false]
      clear hr
      go_enter Try.func43, Try.ntmps43
      go_wp2_with fail
      generalize hv2 : World.alloc (World.alloc w _) _ = v2
      refine (HR.out _).mono ?_
      rintro r v3 ⟨rfl, hb3⟩
      obtain ⟨hB, hz, hA, hC, hfA, hfC⟩ := two_after hv2 hb3
      have q0 := hA 0
      have q1 := hA 1
      have q2 := hA 2
      have q3 := hA 3
      have p0 := hC 0
      have p1 := hC 1
      have p2 := hC 2
      have p3 := hC 3
      have f0 := hfA 0
      have f1 := hfA 1
      have f2 := hfA 2
      have f3 := hfA 3
      have HB := Lib.hid hB
      clear hv2 hb3 hA hC hfA hfC hB
      go_wp2_with fail
      simp [bodyPost, results, Try.results43, go_sem, *]
      exact (((HB.out.setCell (Nat.le_refl _) _).setCell (Nat.le_refl _) _).setCell (Nat.le_refl _) _).setCell (Nat.le_refl _) _
set_option maxHeartbeats 4000000 in
theorem extend_te (t : Te) (now : Int) (w : World) : Calls Try.prog 47 #[.agg #[.int .i64 t.dl, .int .i64 t.span, .int .i64 t.used, .int .i64 t.cap], .int .i64 now] w fun r w' => r = .returned (.tuple #[.agg #[.int .i64 (extendTe t now).1.dl, .int .i64 (extendTe t now).1.span, .int .i64 (extendTe t now).1.used, .int .i64 (extendTe t now).1.cap], .int .i64 (extendTe t now).2]) ∧ Below w.heap.size w w' := by
  have HR := Lib.hid (fun W => right_te t W)
  have HO := Lib.hid (fun W => over_te t now W)
  cases hr : rightTe t
  · have hE : extendTe t now = (t, 2) := by rw [extendTe, if_pos hr]
    rw [hE]
    simp only [hr] at HR
    clear hE hr HO
    go_enter Try.func47, Try.ntmps47
    go_wp2_with fail
    generalize hv2 : World.alloc (World.alloc w _) _ = v2
    refine (HR.out _).mono ?_
    rintro r v3 ⟨rfl, hb3⟩
    obtain ⟨hB, hz, hA, hC, hfA, hfC⟩ := two_after hv2 hb3
    have q0 := hA 0
    have q1 := hA 1
    have q2 := hA 2
    have q3 := hA 3
    have p0 := hC 0
    have p1 := hC 1
    have p2 := hC 2
    have p3 := hC 3
    have f0 := hfA 0
    have f1 := hfA 1
    have f2 := hfA 2
    have f3 := hfA 3
    have g0 := hfC 0
    have g1 := hfC 1
    have g2 := hfC 2
    have g3 := hfC 3
    have HB := Lib.hid hB
    clear hv2 hb3 hA hC hfA hfC hB
    go_wp2_with fail
    simp [bodyPost, results, Try.results47, go_sem, *]
    exact (((HB.out.setCell (Nat.le_succ _) _).setCell (Nat.le_succ _) _).setCell (Nat.le_succ _) _).setCell (Nat.le_succ _) _
  · have hrr := hr
    simp only [rightTe, baseTe, Bool.and_eq_true, decide_eq_true_eq] at hrr
    have hlb := left_bounds (t := t) (by simp only [baseTe, decide_eq_true_eq]; exact hrr.1.1)
    obtain ⟨⟨⟨s1, s2, s3, s4, s5, s6⟩, s7⟩, s8⟩ := hrr
    have w1 : wrap64 (t.dl + t.span) = t.dl + t.span := by unfold wrap64; omega
    have w2 : wrap64 (t.used + 1) = t.used + 1 := by unfold wrap64; omega
    clear hlb s7 s8
    cases ho : overTe t now
    · by_cases hc : t.used = t.cap
      · have hE : extendTe t now = (t, 12) := by rw [extendTe, hr, ho, if_neg (by decide), if_neg (by decide), if_pos hc]
        rw [hE]
        simp only [hr] at HR
        simp only [ho] at HO
        clear hE hr ho
        obtain ⟨dl, sp, us, cp⟩ := t
        dsimp only at *
        subst hc
        go_enter Try.func47, Try.ntmps47
        go_wp2_with fail
        generalize hv2 : World.alloc (World.alloc w _) _ = v2
        have hv2' := two_blocks hv2
        have r0 := hv2'.2.2.1 0
        have r1 := hv2'.2.2.1 1
        have r2 := hv2'.2.2.1 2
        have r3 := hv2'.2.2.1 3
        refine (HR.out _).mono ?_
        rintro r v3 ⟨rfl, hb3⟩
        have hl : w.heap.size < v2.heap.size := by have := hv2'.2.1; omega
        have q0 := (hb3.cell (p := ⟨w.heap.size, 0, none⟩) hl).trans r0
        have q1 := (hb3.cell (p := ⟨w.heap.size, 1, none⟩) hl).trans r1
        have q2 := (hb3.cell (p := ⟨w.heap.size, 2, none⟩) hl).trans r2
        have q3 := (hb3.cell (p := ⟨w.heap.size, 3, none⟩) hl).trans r3
        clear hv2' hl r0 r1 r2 r3
        have HV2 := Lib.hid hv2
        have HB3 := Lib.hid hb3
        clear hv2 hb3
        go_wp2_with fail
        refine (HO.out _).mono ?_
        rintro r v4 ⟨rfl, hb4⟩
        have hb34 := HB3.out.trans (hb4.mono HB3.out.size)
        clear q0 q1 q2 q3 hb4
        obtain ⟨hB, hz, hA, hC, hfA, hfC⟩ := two_after HV2.out hb34
        have q0 := hA 0
        have q1 := hA 1
        have q2 := hA 2
        have q3 := hA 3
        have p0 := hC 0
        have p1 := hC 1
        have p2 := hC 2
        have p3 := hC 3
        have f0 := hfA 0
        have f1 := hfA 1
        have f2 := hfA 2
        have f3 := hfA 3
        have g0 := hfC 0
        have g1 := hfC 1
        have g2 := hfC 2
        have g3 := hfC 3
        have HB := Lib.hid hB
        clear HB3 HV2 hb34 hA hC hfA hfC hB
        go_wp2_with fail
        simp [bodyPost, results, Try.results47, go_sem, *]
        exact (((HB.out.setCell (Nat.le_succ _) _).setCell (Nat.le_succ _) _).setCell (Nat.le_succ _) _).setCell (Nat.le_succ _) _
      · have hE : extendTe t now = ({ t with dl := t.dl + t.span, used := t.used + 1 }, 0) := by rw [extendTe, hr, ho, if_neg (by decide), if_neg (by decide), if_neg hc]
        rw [hE]
        simp only [hr] at HR
        simp only [ho] at HO
        clear hE hr ho
        go_enter Try.func47, Try.ntmps47
        go_wp2_with fail
        generalize hv2 : World.alloc (World.alloc w _) _ = v2
        have hv2' := two_blocks hv2
        have r0 := hv2'.2.2.1 0
        have r1 := hv2'.2.2.1 1
        have r2 := hv2'.2.2.1 2
        have r3 := hv2'.2.2.1 3
        refine (HR.out _).mono ?_
        rintro r v3 ⟨rfl, hb3⟩
        have hl : w.heap.size < v2.heap.size := by have := hv2'.2.1; omega
        have q0 := (hb3.cell (p := ⟨w.heap.size, 0, none⟩) hl).trans r0
        have q1 := (hb3.cell (p := ⟨w.heap.size, 1, none⟩) hl).trans r1
        have q2 := (hb3.cell (p := ⟨w.heap.size, 2, none⟩) hl).trans r2
        have q3 := (hb3.cell (p := ⟨w.heap.size, 3, none⟩) hl).trans r3
        clear hv2' hl r0 r1 r2 r3
        have HV2 := Lib.hid hv2
        have HB3 := Lib.hid hb3
        clear hv2 hb3
        go_wp2_with fail
        refine (HO.out _).mono ?_
        rintro r v4 ⟨rfl, hb4⟩
        have hb34 := HB3.out.trans (hb4.mono HB3.out.size)
        clear q0 q1 q2 q3 hb4
        obtain ⟨hB, hz, hA, hC, hfA, hfC⟩ := two_after HV2.out hb34
        have q0 := hA 0
        have q1 := hA 1
        have q2 := hA 2
        have q3 := hA 3
        have p0 := hC 0
        have p1 := hC 1
        have p2 := hC 2
        have p3 := hC 3
        have f0 := hfA 0
        have f1 := hfA 1
        have f2 := hfA 2
        have f3 := hfA 3
        have g0 := hfC 0
        have g1 := hfC 1
        have g2 := hfC 2
        have g3 := hfC 3
        have HB := Lib.hid hB
        clear HB3 HV2 hb34 hA hC hfA hfC hB
        go_wp2_with fail
        simp [bodyPost, results, Try.results47, go_sem, *]
        exact (((((HB.out.setCell (Nat.le_refl _) _).setCell (Nat.le_refl _) _).setCell (Nat.le_succ _) _).setCell (Nat.le_succ _) _).setCell (Nat.le_succ _) _).setCell (Nat.le_succ _) _
    · have hE : extendTe t now = (t, 11) := by rw [extendTe, hr, ho, if_neg (by decide), if_pos rfl]
      rw [hE]
      simp only [hr] at HR
      simp only [ho] at HO
      clear hE hr ho
      go_enter Try.func47, Try.ntmps47
      go_wp2_with fail
      generalize hv2 : World.alloc (World.alloc w _) _ = v2
      have hv2' := two_blocks hv2
      have r0 := hv2'.2.2.1 0
      have r1 := hv2'.2.2.1 1
      have r2 := hv2'.2.2.1 2
      have r3 := hv2'.2.2.1 3
      refine (HR.out _).mono ?_
      rintro r v3 ⟨rfl, hb3⟩
      have hl : w.heap.size < v2.heap.size := by have := hv2'.2.1; omega
      have q0 := (hb3.cell (p := ⟨w.heap.size, 0, none⟩) hl).trans r0
      have q1 := (hb3.cell (p := ⟨w.heap.size, 1, none⟩) hl).trans r1
      have q2 := (hb3.cell (p := ⟨w.heap.size, 2, none⟩) hl).trans r2
      have q3 := (hb3.cell (p := ⟨w.heap.size, 3, none⟩) hl).trans r3
      clear hv2' hl r0 r1 r2 r3
      have HV2 := Lib.hid hv2
      have HB3 := Lib.hid hb3
      clear hv2 hb3
      go_wp2_with fail
      refine (HO.out _).mono ?_
      rintro r v4 ⟨rfl, hb4⟩
      have hb34 := HB3.out.trans (hb4.mono HB3.out.size)
      clear q0 q1 q2 q3 hb4
      obtain ⟨hB, hz, hA, hC, hfA, hfC⟩ := two_after HV2.out hb34
      have q0 := hA 0
      have q1 := hA 1
      have q2 := hA 2
      have q3 := hA 3
      have p0 := hC 0
      have p1 := hC 1
      have p2 := hC 2
      have p3 := hC 3
      have f0 := hfA 0
      have f1 := hfA 1
      have f2 := hfA 2
      have f3 := hfA 3
      have g0 := hfC 0
      have g1 := hfC 1
      have g2 := hfC 2
      have g3 := hfC 3
      have HB := Lib.hid hB
      clear HB3 HV2 hb34 hA hC hfA hfC hB
      go_wp2_with fail
      simp [bodyPost, results, Try.results47, go_sem, *]
      exact (((HB.out.setCell (Nat.le_succ _) _).setCell (Nat.le_succ _) _).setCell (Nat.le_succ _) _).setCell (Nat.le_succ _) _
end Go.Proofs.Ytdlfjbllmmkmkaa.Chair
