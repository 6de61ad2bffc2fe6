/- What the reference's Hear makes of any side and any message, and what it says. -/
import Derived.Test.YtamlkmnkdcoebaaHandRef
namespace Go.Proofs.Ytamlkmnkdcoebaa.Hand
open Go.RowKit LeaseSpec Flat Lease HandSpec Go.Proofs.YtamlkmnkdcoebaaW.PrintLast
set_option linter.unusedSimpArgs false
set_option linter.unusedVariables false

theorem said_slice {w : World} {B : Nat} {o : Option M} {v : Value} (h : Said w B o v) : ∃ a l n, v = .slice a l n := by
  cases o with
  | none => exact ⟨none, 0, 0, h⟩
  | some m => obtain ⟨g, hv, _⟩ := h; exact ⟨_, _, _, hv⟩

theorem told_of {T : S × Option M × Int} {w w' : World} {v : Value} (hB : Below w.heap.size w w') (hs : Said w' w.heap.size T.2.1 v) :
    Told T w (.returned (.agg #[.int .u8 T.1.me, .int .i64 T.1.e, .int .i64 T.1.s, .int .u8 T.1.t, .string T.1.c, .bool T.1.k, v, .int .i64 T.2.2])) w' := ⟨v, rfl, hB, hs⟩

set_option maxHeartbeats 8000000 in
set_option maxRecDepth 100000 in
theorem hear_ref_bad (x : S) (m : M) (w : World) (hc : x.c.size ≤ maxLen) (hcm : m.c.size ≤ maxLen) (hbad : rightS x = false ∨ mayM m = false ∨ m.dst ≠ x.me) :
    Calls Try.prog 12 #[.agg #[.int .u8 x.me, .int .i64 x.e, .int .i64 x.s, .int .u8 x.t, .string x.c, .bool x.k], .agg #[.int .i64 m.kind, .int .u8 m.src, .int .u8 m.dst, .int .i64 m.ep, .string m.c]] w (Told (x, none, 2) w) := by
  obtain ⟨me, e, s, t, c, k⟩ := x
  obtain ⟨kind, src, dst, ep, mc⟩ := m
  dsimp only at hc hcm hbad ⊢
  cases hr : rightS ⟨me, e, s, t, c, k⟩ with
  | false =>
    clear hbad
    go_enter Try.func12, Try.ntmps12
    go_wp2_with fail
    refine (right_hand_ref ⟨me, e, s, t, c, k⟩ _ hc).mono ?_
    rw [hr]
    rintro r w1 ⟨rfl, hb1⟩
    obtain ⟨c_hb1, f_hb1, z_hb1⟩ := bcell hb1; have z0_hb1 := z_hb1 (w.heap.size) (by first | omega | (simp only [World.size_alloc, World.size_setCell, World.size_drew, World.heap_drewN] <;> omega)); have z1_hb1 := z_hb1 (w.heap.size + 1) (by first | omega | (simp only [World.size_alloc, World.size_setCell, World.size_drew, World.heap_drewN] <;> omega)); have z2_hb1 := z_hb1 (w.heap.size + 2) (by first | omega | (simp only [World.size_alloc, World.size_setCell, World.size_drew, World.heap_drewN] <;> omega)); clear z_hb1
    go_wp2_with fail
    simp [bodyPost, results, Try.results12, go_sem, *]
    refine told_mk ?_ rfl
    repeat (first | (with_reducible exact Below.refl _ _) | (with_reducible assumption) | (with_reducible refine bw_alloc ?_) | (with_reducible refine bw_drew ?_) | (with_reducible refine bw_drewN ?_) | (with_reducible refine bw_set ?_ (by first | (simp; done) | (dsimp only; omega))) | (with_reducible refine bw_via (by assumption) ?_))
  | true =>
    cases hm : mayM ⟨kind, src, dst, ep, mc⟩ with
    | false =>
      clear hbad
      go_enter Try.func12, Try.ntmps12
      go_wp2_with fail
      refine (right_hand_ref ⟨me, e, s, t, c, k⟩ _ hc).mono ?_
      rw [hr]
      rintro r w1 ⟨rfl, hb1⟩
      obtain ⟨c_hb1, f_hb1, z_hb1⟩ := bcell hb1; have z0_hb1 := z_hb1 (w.heap.size) (by first | omega | (simp only [World.size_alloc, World.size_setCell, World.size_drew, World.heap_drewN] <;> omega)); have z1_hb1 := z_hb1 (w.heap.size + 1) (by first | omega | (simp only [World.size_alloc, World.size_setCell, World.size_drew, World.heap_drewN] <;> omega)); have z2_hb1 := z_hb1 (w.heap.size + 2) (by first | omega | (simp only [World.size_alloc, World.size_setCell, World.size_drew, World.heap_drewN] <;> omega)); clear z_hb1
      go_wp2_with fail
      refine (may_ref ⟨kind, src, dst, ep, mc⟩ _ hcm).mono ?_
      rw [hm]
      rintro r w2 ⟨rfl, hb2⟩
      obtain ⟨c_hb2, f_hb2, z_hb2⟩ := bcell hb2; have z0_hb2 := z_hb2 (w.heap.size) (by first | omega | (simp only [World.size_alloc, World.size_setCell, World.size_drew, World.heap_drewN] <;> omega)); have z1_hb2 := z_hb2 (w.heap.size + 1) (by first | omega | (simp only [World.size_alloc, World.size_setCell, World.size_drew, World.heap_drewN] <;> omega)); have z2_hb2 := z_hb2 (w.heap.size + 2) (by first | omega | (simp only [World.size_alloc, World.size_setCell, World.size_drew, World.heap_drewN] <;> omega)); clear z_hb2
      go_wp2_with fail
      simp [bodyPost, results, Try.results12, go_sem, *]
      refine told_mk ?_ rfl
      repeat (first | (with_reducible exact Below.refl _ _) | (with_reducible assumption) | (with_reducible refine bw_alloc ?_) | (with_reducible refine bw_drew ?_) | (with_reducible refine bw_drewN ?_) | (with_reducible refine bw_set ?_ (by first | (simp; done) | (dsimp only; omega))) | (with_reducible refine bw_via (by assumption) ?_))
    | true =>
      have hd1 : (dst != me) = true := by
        rcases hbad with h | h | h
        · rw [hr] at h; cases h
        · rw [hm] at h; cases h
        · simpa using h
      clear hbad
      go_enter Try.func12, Try.ntmps12
      go_wp2_with fail
      refine (right_hand_ref ⟨me, e, s, t, c, k⟩ _ hc).mono ?_
      rw [hr]
      rintro r w1 ⟨rfl, hb1⟩
      obtain ⟨c_hb1, f_hb1, z_hb1⟩ := bcell hb1; have z0_hb1 := z_hb1 (w.heap.size) (by first | omega | (simp only [World.size_alloc, World.size_setCell, World.size_drew, World.heap_drewN] <;> omega)); have z1_hb1 := z_hb1 (w.heap.size + 1) (by first | omega | (simp only [World.size_alloc, World.size_setCell, World.size_drew, World.heap_drewN] <;> omega)); have z2_hb1 := z_hb1 (w.heap.size + 2) (by first | omega | (simp only [World.size_alloc, World.size_setCell, World.size_drew, World.heap_drewN] <;> omega)); clear z_hb1
      go_wp2_with fail
      refine (may_ref ⟨kind, src, dst, ep, mc⟩ _ hcm).mono ?_
      rw [hm]
      rintro r w2 ⟨rfl, hb2⟩
      obtain ⟨c_hb2, f_hb2, z_hb2⟩ := bcell hb2; have z0_hb2 := z_hb2 (w.heap.size) (by first | omega | (simp only [World.size_alloc, World.size_setCell, World.size_drew, World.heap_drewN] <;> omega)); have z1_hb2 := z_hb2 (w.heap.size + 1) (by first | omega | (simp only [World.size_alloc, World.size_setCell, World.size_drew, World.heap_drewN] <;> omega)); have z2_hb2 := z_hb2 (w.heap.size + 2) (by first | omega | (simp only [World.size_alloc, World.size_setCell, World.size_drew, World.heap_drewN] <;> omega)); clear z_hb2
      go_wp2_with fail
      simp [bodyPost, results, Try.results12, go_sem, *]
      refine told_mk ?_ rfl
      repeat (first | (with_reducible exact Below.refl _ _) | (with_reducible assumption) | (with_reducible refine bw_alloc ?_) | (with_reducible refine bw_drew ?_) | (with_reducible refine bw_drewN ?_) | (with_reducible refine bw_set ?_ (by first | (simp; done) | (dsimp only; omega))) | (with_reducible refine bw_via (by assumption) ?_))


set_option maxHeartbeats 8000000 in
set_option maxRecDepth 100000 in
theorem hear_ref2 (me e s t src ep : Int) (c mc : ByteArray) (k : Bool) (w : World) (hr : rightS ⟨me, e, s, t, c, k⟩ = true) (hm : mayM ⟨2, src, me, ep, mc⟩ = true) (hc : c.size ≤ maxLen) (hcm : mc.size ≤ maxLen) : Calls Try.prog 12 #[.agg #[.int .u8 me, .int .i64 e, .int .i64 s, .int .u8 t, .string c, .bool k], .agg #[.int .i64 2, .int .u8 src, .int .u8 me, .int .i64 ep, .string mc]] w (Told (hearH ⟨me, e, s, t, c, k⟩ ⟨2, src, me, ep, mc⟩) w) := by
  have hf := may_facts hm
  have HW := Lib.hid (fun (W : World) => show Calls Try.prog 29 #[.agg #[.int .u8 me, .int .i64 e, .int .i64 s, .int .u8 t, .string c, .bool k], .agg #[.int .i64 2, .int .u8 src, .int .u8 me, .int .i64 ep, .string mc]] W (Told (hearH ⟨me, e, s, t, c, k⟩ ⟨2, src, me, ep, mc⟩) W) from by
    cases hsp : speaksB e s t ep
    · exact want_old _ _ _ _ _ _ _ _ _ _ _ hr hsp
    · exact want_new _ _ _ _ _ _ _ _ _ _ _ hr hf.2.2.2.1 hsp)
  clear hf
  generalize hearH ⟨me, e, s, t, c, k⟩ ⟨2, src, me, ep, mc⟩ = T at HW ⊢
  go_enter Try.func12, Try.ntmps12; go_wp2_with fail; refine (right_hand_ref ⟨me, e, s, t, c, k⟩ _ hc).mono ?_; rw [hr]; rintro r w1 ⟨rfl, hb1⟩; obtain ⟨c_hb1, f_hb1, z_hb1⟩ := bcell hb1; have z0_hb1 := z_hb1 (w.heap.size) (by first | omega | (simp only [World.size_alloc, World.size_setCell, World.size_drew, World.heap_drewN] <;> omega)); have z1_hb1 := z_hb1 (w.heap.size + 1) (by first | omega | (simp only [World.size_alloc, World.size_setCell, World.size_drew, World.heap_drewN] <;> omega)); have z2_hb1 := z_hb1 (w.heap.size + 2) (by first | omega | (simp only [World.size_alloc, World.size_setCell, World.size_drew, World.heap_drewN] <;> omega)); clear z_hb1; go_wp2_with fail; refine (may_ref ⟨2, src, me, ep, mc⟩ _ hcm).mono ?_; rw [hm]; rintro r w2 ⟨rfl, hb2⟩; obtain ⟨c_hb2, f_hb2, z_hb2⟩ := bcell hb2; have z0_hb2 := z_hb2 (w.heap.size) (by first | omega | (simp only [World.size_alloc, World.size_setCell, World.size_drew, World.heap_drewN] <;> omega)); have z1_hb2 := z_hb2 (w.heap.size + 1) (by first | omega | (simp only [World.size_alloc, World.size_setCell, World.size_drew, World.heap_drewN] <;> omega)); have z2_hb2 := z_hb2 (w.heap.size + 2) (by first | omega | (simp only [World.size_alloc, World.size_setCell, World.size_drew, World.heap_drewN] <;> omega)); clear z_hb2
  have u0 : w2.cell? ⟨w.heap.size, 0, none⟩ = some (.int .u8 me) := (by simp [go_sem, c_hb2, c_hb1, z0_hb1]); have u1 : w2.cell? ⟨w.heap.size, 1, none⟩ = some (.int .i64 e) := (by simp [go_sem, c_hb2, c_hb1, z0_hb1]); have u2 : w2.cell? ⟨w.heap.size, 2, none⟩ = some (.int .i64 s) := (by simp [go_sem, c_hb2, c_hb1, z0_hb1]); have u3 : w2.cell? ⟨w.heap.size, 3, none⟩ = some (.int .u8 t) := (by simp [go_sem, c_hb2, c_hb1, z0_hb1]); have u4 : w2.cell? ⟨w.heap.size, 4, none⟩ = some (.string c) := (by simp [go_sem, c_hb2, c_hb1, z0_hb1]); have u5 : w2.cell? ⟨w.heap.size, 5, none⟩ = some (.bool k) := (by simp [go_sem, c_hb2, c_hb1, z0_hb1])
  have m0 : w2.cell? ⟨w.heap.size + 1, 0, none⟩ = some (.int .i64 2) := (by simp [go_sem, c_hb2, c_hb1, z1_hb1]); have m1 : w2.cell? ⟨w.heap.size + 1, 1, none⟩ = some (.int .u8 src) := (by simp [go_sem, c_hb2, c_hb1, z1_hb1]); have m2 : w2.cell? ⟨w.heap.size + 1, 2, none⟩ = some (.int .u8 me) := (by simp [go_sem, c_hb2, c_hb1, z1_hb1]); have m3 : w2.cell? ⟨w.heap.size + 1, 3, none⟩ = some (.int .i64 ep) := (by simp [go_sem, c_hb2, c_hb1, z1_hb1]); have m4 : w2.cell? ⟨w.heap.size + 1, 4, none⟩ = some (.string mc) := (by simp [go_sem, c_hb2, c_hb1, z1_hb1])
  have v0 : w2.cell? ⟨w.heap.size + 1 + 1, 0, none⟩ = some (.int .u8 0) := (by simp [go_sem, c_hb2, c_hb1, z2_hb1]); have v1 : w2.cell? ⟨w.heap.size + 1 + 1, 1, none⟩ = some (.int .i64 0) := (by simp [go_sem, c_hb2, c_hb1, z2_hb1]); have v2 : w2.cell? ⟨w.heap.size + 1 + 1, 2, none⟩ = some (.int .i64 0) := (by simp [go_sem, c_hb2, c_hb1, z2_hb1]); have v3 : w2.cell? ⟨w.heap.size + 1 + 1, 3, none⟩ = some (.int .u8 0) := (by simp [go_sem, c_hb2, c_hb1, z2_hb1]); have v4 : w2.cell? ⟨w.heap.size + 1 + 1, 4, none⟩ = some (.string ⟨#[]⟩) := (by simp [go_sem, c_hb2, c_hb1, z2_hb1]); have v5 : w2.cell? ⟨w.heap.size + 1 + 1, 5, none⟩ = some (.bool false) := (by simp [go_sem, c_hb2, c_hb1, z2_hb1]); have v6 : w2.cell? ⟨w.heap.size + 1 + 1, 6, none⟩ = some (.slice none 0 0) := (by simp [go_sem, c_hb2, c_hb1, z2_hb1]); have v7 : w2.cell? ⟨w.heap.size + 1 + 1, 7, none⟩ = some (.int .i64 0) := (by simp [go_sem, c_hb2, c_hb1, z2_hb1])
  have f2 : ∀ o, w2.frozen? ⟨w.heap.size + 1 + 1, o, none⟩ = false := by intro o; simp [go_sem, f_hb2, f_hb1, z2_hb1]
  clear c_hb1 f_hb1 c_hb2 f_hb2
  go_wp2_with fail
  refine (HW.out _).mono ?_
  rintro r w3 ⟨v, rfl, hb3, hsaid⟩
  obtain ⟨va, vl, vn, rfl⟩ := said_slice hsaid
  have f3 : ∀ o, w3.frozen? ⟨w.heap.size + 1 + 1, o, none⟩ = false := fun o => stayf hb3 z2_hb2 (f2 o)
  have q0 := stay hb3 z2_hb2 v0
  have q1 := stay hb3 z2_hb2 v1
  have q2 := stay hb3 z2_hb2 v2
  have q3 := stay hb3 z2_hb2 v3
  have q4 := stay hb3 z2_hb2 v4
  have q5 := stay hb3 z2_hb2 v5
  have q6 := stay hb3 z2_hb2 v6
  have q7 := stay hb3 z2_hb2 v7
  go_wp2_with fail
  simp [bodyPost, results, Try.results12, go_sem, *]
  refine told_of ?_ ?_
  · repeat (first | (with_reducible exact Below.refl _ _) | (with_reducible assumption) | (with_reducible refine bw_alloc ?_) | (with_reducible refine bw_drew ?_) | (with_reducible refine bw_drewN ?_) | (with_reducible refine bw_set ?_ (by first | (simp; done) | (dsimp only; omega))) | (with_reducible refine bw_via (by assumption) ?_))
  · refine said_mono (B := w2.heap.size) ?_ (by omega)
    repeat (first | (with_reducible exact hsaid) | (with_reducible refine said_set ?_ (by omega)) | (with_reducible refine said_alloc ?_) | (with_reducible refine said_drew ?_) | (with_reducible refine said_below ?_ (by assumption)))
set_option maxHeartbeats 8000000 in
set_option maxRecDepth 100000 in
theorem hear_ref3 (me e s t src ep : Int) (c mc : ByteArray) (k : Bool) (w : World) (hr : rightS ⟨me, e, s, t, c, k⟩ = true) (hm : mayM ⟨3, src, me, ep, mc⟩ = true) (hc : c.size ≤ maxLen) (hcm : mc.size ≤ maxLen) : Calls Try.prog 12 #[.agg #[.int .u8 me, .int .i64 e, .int .i64 s, .int .u8 t, .string c, .bool k], .agg #[.int .i64 3, .int .u8 src, .int .u8 me, .int .i64 ep, .string mc]] w (Told (hearH ⟨me, e, s, t, c, k⟩ ⟨3, src, me, ep, mc⟩) w) := by
  have hf := may_facts hm
  have HW := Lib.hid (fun (W : World) => show Calls Try.prog 30 #[.agg #[.int .u8 me, .int .i64 e, .int .i64 s, .int .u8 t, .string c, .bool k], .agg #[.int .i64 3, .int .u8 src, .int .u8 me, .int .i64 ep, .string mc]] W (Told (hearH ⟨me, e, s, t, c, k⟩ ⟨3, src, me, ep, mc⟩) W) from by
    exact give_ref12 _ _ _ _ _ _ _ _ _ _ _ (right_lease hr).1 ⟨hf.2.1, hf.2.2.1⟩)
  clear hf
  generalize hearH ⟨me, e, s, t, c, k⟩ ⟨3, src, me, ep, mc⟩ = T at HW ⊢
  go_enter Try.func12, Try.ntmps12; go_wp2_with fail; refine (right_hand_ref ⟨me, e, s, t, c, k⟩ _ hc).mono ?_; rw [hr]; rintro r w1 ⟨rfl, hb1⟩; obtain ⟨c_hb1, f_hb1, z_hb1⟩ := bcell hb1; have z0_hb1 := z_hb1 (w.heap.size) (by first | omega | (simp only [World.size_alloc, World.size_setCell, World.size_drew, World.heap_drewN] <;> omega)); have z1_hb1 := z_hb1 (w.heap.size + 1) (by first | omega | (simp only [World.size_alloc, World.size_setCell, World.size_drew, World.heap_drewN] <;> omega)); have z2_hb1 := z_hb1 (w.heap.size + 2) (by first | omega | (simp only [World.size_alloc, World.size_setCell, World.size_drew, World.heap_drewN] <;> omega)); clear z_hb1; go_wp2_with fail; refine (may_ref ⟨3, src, me, ep, mc⟩ _ hcm).mono ?_; rw [hm]; rintro r w2 ⟨rfl, hb2⟩; obtain ⟨c_hb2, f_hb2, z_hb2⟩ := bcell hb2; have z0_hb2 := z_hb2 (w.heap.size) (by first | omega | (simp only [World.size_alloc, World.size_setCell, World.size_drew, World.heap_drewN] <;> omega)); have z1_hb2 := z_hb2 (w.heap.size + 1) (by first | omega | (simp only [World.size_alloc, World.size_setCell, World.size_drew, World.heap_drewN] <;> omega)); have z2_hb2 := z_hb2 (w.heap.size + 2) (by first | omega | (simp only [World.size_alloc, World.size_setCell, World.size_drew, World.heap_drewN] <;> omega)); clear z_hb2
  have u0 : w2.cell? ⟨w.heap.size, 0, none⟩ = some (.int .u8 me) := (by simp [go_sem, c_hb2, c_hb1, z0_hb1]); have u1 : w2.cell? ⟨w.heap.size, 1, none⟩ = some (.int .i64 e) := (by simp [go_sem, c_hb2, c_hb1, z0_hb1]); have u2 : w2.cell? ⟨w.heap.size, 2, none⟩ = some (.int .i64 s) := (by simp [go_sem, c_hb2, c_hb1, z0_hb1]); have u3 : w2.cell? ⟨w.heap.size, 3, none⟩ = some (.int .u8 t) := (by simp [go_sem, c_hb2, c_hb1, z0_hb1]); have u4 : w2.cell? ⟨w.heap.size, 4, none⟩ = some (.string c) := (by simp [go_sem, c_hb2, c_hb1, z0_hb1]); have u5 : w2.cell? ⟨w.heap.size, 5, none⟩ = some (.bool k) := (by simp [go_sem, c_hb2, c_hb1, z0_hb1])
  have m0 : w2.cell? ⟨w.heap.size + 1, 0, none⟩ = some (.int .i64 3) := (by simp [go_sem, c_hb2, c_hb1, z1_hb1]); have m1 : w2.cell? ⟨w.heap.size + 1, 1, none⟩ = some (.int .u8 src) := (by simp [go_sem, c_hb2, c_hb1, z1_hb1]); have m2 : w2.cell? ⟨w.heap.size + 1, 2, none⟩ = some (.int .u8 me) := (by simp [go_sem, c_hb2, c_hb1, z1_hb1]); have m3 : w2.cell? ⟨w.heap.size + 1, 3, none⟩ = some (.int .i64 ep) := (by simp [go_sem, c_hb2, c_hb1, z1_hb1]); have m4 : w2.cell? ⟨w.heap.size + 1, 4, none⟩ = some (.string mc) := (by simp [go_sem, c_hb2, c_hb1, z1_hb1])
  have v0 : w2.cell? ⟨w.heap.size + 1 + 1, 0, none⟩ = some (.int .u8 0) := (by simp [go_sem, c_hb2, c_hb1, z2_hb1]); have v1 : w2.cell? ⟨w.heap.size + 1 + 1, 1, none⟩ = some (.int .i64 0) := (by simp [go_sem, c_hb2, c_hb1, z2_hb1]); have v2 : w2.cell? ⟨w.heap.size + 1 + 1, 2, none⟩ = some (.int .i64 0) := (by simp [go_sem, c_hb2, c_hb1, z2_hb1]); have v3 : w2.cell? ⟨w.heap.size + 1 + 1, 3, none⟩ = some (.int .u8 0) := (by simp [go_sem, c_hb2, c_hb1, z2_hb1]); have v4 : w2.cell? ⟨w.heap.size + 1 + 1, 4, none⟩ = some (.string ⟨#[]⟩) := (by simp [go_sem, c_hb2, c_hb1, z2_hb1]); have v5 : w2.cell? ⟨w.heap.size + 1 + 1, 5, none⟩ = some (.bool false) := (by simp [go_sem, c_hb2, c_hb1, z2_hb1]); have v6 : w2.cell? ⟨w.heap.size + 1 + 1, 6, none⟩ = some (.slice none 0 0) := (by simp [go_sem, c_hb2, c_hb1, z2_hb1]); have v7 : w2.cell? ⟨w.heap.size + 1 + 1, 7, none⟩ = some (.int .i64 0) := (by simp [go_sem, c_hb2, c_hb1, z2_hb1])
  have f2 : ∀ o, w2.frozen? ⟨w.heap.size + 1 + 1, o, none⟩ = false := by intro o; simp [go_sem, f_hb2, f_hb1, z2_hb1]
  clear c_hb1 f_hb1 c_hb2 f_hb2
  go_wp2_with fail
  refine (HW.out _).mono ?_
  rintro r w3 ⟨v, rfl, hb3, hsaid⟩
  obtain ⟨va, vl, vn, rfl⟩ := said_slice hsaid
  have f3 : ∀ o, w3.frozen? ⟨w.heap.size + 1 + 1, o, none⟩ = false := fun o => stayf hb3 z2_hb2 (f2 o)
  have q0 := stay hb3 z2_hb2 v0
  have q1 := stay hb3 z2_hb2 v1
  have q2 := stay hb3 z2_hb2 v2
  have q3 := stay hb3 z2_hb2 v3
  have q4 := stay hb3 z2_hb2 v4
  have q5 := stay hb3 z2_hb2 v5
  have q6 := stay hb3 z2_hb2 v6
  have q7 := stay hb3 z2_hb2 v7
  go_wp2_with fail
  simp [bodyPost, results, Try.results12, go_sem, *]
  refine told_of ?_ ?_
  · repeat (first | (with_reducible exact Below.refl _ _) | (with_reducible assumption) | (with_reducible refine bw_alloc ?_) | (with_reducible refine bw_drew ?_) | (with_reducible refine bw_drewN ?_) | (with_reducible refine bw_set ?_ (by first | (simp; done) | (dsimp only; omega))) | (with_reducible refine bw_via (by assumption) ?_))
  · refine said_mono (B := w2.heap.size) ?_ (by omega)
    repeat (first | (with_reducible exact hsaid) | (with_reducible refine said_set ?_ (by omega)) | (with_reducible refine said_alloc ?_) | (with_reducible refine said_drew ?_) | (with_reducible refine said_below ?_ (by assumption)))

set_option maxHeartbeats 8000000 in
set_option maxRecDepth 100000 in
theorem hear_ref1 (me e s t src ep : Int) (c mc : ByteArray) (k : Bool) (w : World) (hr : rightS ⟨me, e, s, t, c, k⟩ = true) (hm : mayM ⟨1, src, me, ep, mc⟩ = true) (hc : c.size ≤ maxLen) (hcm : mc.size ≤ maxLen) : Calls Try.prog 12 #[.agg #[.int .u8 me, .int .i64 e, .int .i64 s, .int .u8 t, .string c, .bool k], .agg #[.int .i64 1, .int .u8 src, .int .u8 me, .int .i64 ep, .string mc]] w (Told (hearH ⟨me, e, s, t, c, k⟩ ⟨1, src, me, ep, mc⟩) w) := by
  by_cases h2 : e < ep
  · have hh : hearH ⟨me, e, s, t, c, k⟩ ⟨1, src, me, ep, mc⟩ = (⟨me, e, s, t, c, k⟩, some ⟨2, me, src, ep, noC⟩, 0) := by simp [hearH, h2]
    rw [hh]
    clear hh
    go_enter Try.func12, Try.ntmps12; go_wp2_with fail; refine (right_hand_ref ⟨me, e, s, t, c, k⟩ _ hc).mono ?_; rw [hr]; rintro r w1 ⟨rfl, hb1⟩; obtain ⟨c_hb1, f_hb1, z_hb1⟩ := bcell hb1; have z0_hb1 := z_hb1 (w.heap.size) (by first | omega | (simp only [World.size_alloc, World.size_setCell, World.size_drew, World.heap_drewN] <;> omega)); have z1_hb1 := z_hb1 (w.heap.size + 1) (by first | omega | (simp only [World.size_alloc, World.size_setCell, World.size_drew, World.heap_drewN] <;> omega)); have z2_hb1 := z_hb1 (w.heap.size + 2) (by first | omega | (simp only [World.size_alloc, World.size_setCell, World.size_drew, World.heap_drewN] <;> omega)); clear z_hb1; go_wp2_with fail; refine (may_ref ⟨1, src, me, ep, mc⟩ _ hcm).mono ?_; rw [hm]; rintro r w2 ⟨rfl, hb2⟩; obtain ⟨c_hb2, f_hb2, z_hb2⟩ := bcell hb2; have z0_hb2 := z_hb2 (w.heap.size) (by first | omega | (simp only [World.size_alloc, World.size_setCell, World.size_drew, World.heap_drewN] <;> omega)); have z1_hb2 := z_hb2 (w.heap.size + 1) (by first | omega | (simp only [World.size_alloc, World.size_setCell, World.size_drew, World.heap_drewN] <;> omega)); have z2_hb2 := z_hb2 (w.heap.size + 2) (by first | omega | (simp only [World.size_alloc, World.size_setCell, World.size_drew, World.heap_drewN] <;> omega)); clear z_hb2
    have u0 : w2.cell? ⟨w.heap.size, 0, none⟩ = some (.int .u8 me) := (by simp [go_sem, c_hb2, c_hb1, z0_hb1]); have u1 : w2.cell? ⟨w.heap.size, 1, none⟩ = some (.int .i64 e) := (by simp [go_sem, c_hb2, c_hb1, z0_hb1]); have u2 : w2.cell? ⟨w.heap.size, 2, none⟩ = some (.int .i64 s) := (by simp [go_sem, c_hb2, c_hb1, z0_hb1]); have u3 : w2.cell? ⟨w.heap.size, 3, none⟩ = some (.int .u8 t) := (by simp [go_sem, c_hb2, c_hb1, z0_hb1]); have u4 : w2.cell? ⟨w.heap.size, 4, none⟩ = some (.string c) := (by simp [go_sem, c_hb2, c_hb1, z0_hb1]); have u5 : w2.cell? ⟨w.heap.size, 5, none⟩ = some (.bool k) := (by simp [go_sem, c_hb2, c_hb1, z0_hb1])
    have m0 : w2.cell? ⟨w.heap.size + 1, 0, none⟩ = some (.int .i64 1) := (by simp [go_sem, c_hb2, c_hb1, z1_hb1]); have m1 : w2.cell? ⟨w.heap.size + 1, 1, none⟩ = some (.int .u8 src) := (by simp [go_sem, c_hb2, c_hb1, z1_hb1]); have m2 : w2.cell? ⟨w.heap.size + 1, 2, none⟩ = some (.int .u8 me) := (by simp [go_sem, c_hb2, c_hb1, z1_hb1]); have m3 : w2.cell? ⟨w.heap.size + 1, 3, none⟩ = some (.int .i64 ep) := (by simp [go_sem, c_hb2, c_hb1, z1_hb1]); have m4 : w2.cell? ⟨w.heap.size + 1, 4, none⟩ = some (.string mc) := (by simp [go_sem, c_hb2, c_hb1, z1_hb1])
    have v0 : w2.cell? ⟨w.heap.size + 1 + 1, 0, none⟩ = some (.int .u8 0) := (by simp [go_sem, c_hb2, c_hb1, z2_hb1]); have v1 : w2.cell? ⟨w.heap.size + 1 + 1, 1, none⟩ = some (.int .i64 0) := (by simp [go_sem, c_hb2, c_hb1, z2_hb1]); have v2 : w2.cell? ⟨w.heap.size + 1 + 1, 2, none⟩ = some (.int .i64 0) := (by simp [go_sem, c_hb2, c_hb1, z2_hb1]); have v3 : w2.cell? ⟨w.heap.size + 1 + 1, 3, none⟩ = some (.int .u8 0) := (by simp [go_sem, c_hb2, c_hb1, z2_hb1]); have v4 : w2.cell? ⟨w.heap.size + 1 + 1, 4, none⟩ = some (.string ⟨#[]⟩) := (by simp [go_sem, c_hb2, c_hb1, z2_hb1]); have v5 : w2.cell? ⟨w.heap.size + 1 + 1, 5, none⟩ = some (.bool false) := (by simp [go_sem, c_hb2, c_hb1, z2_hb1]); have v6 : w2.cell? ⟨w.heap.size + 1 + 1, 6, none⟩ = some (.slice none 0 0) := (by simp [go_sem, c_hb2, c_hb1, z2_hb1]); have v7 : w2.cell? ⟨w.heap.size + 1 + 1, 7, none⟩ = some (.int .i64 0) := (by simp [go_sem, c_hb2, c_hb1, z2_hb1])
    have f2 : ∀ o, w2.frozen? ⟨w.heap.size + 1 + 1, o, none⟩ = false := by intro o; simp [go_sem, f_hb2, f_hb1, z2_hb1]
    clear c_hb1 f_hb1 c_hb2 f_hb2
    go_wp2_with fail
    simp [bodyPost, results, Try.results12, go_sem, *]
    refine told_mk (y := ⟨me, e, s, t, c, k⟩) ?_ ?_
    · repeat (first | (with_reducible exact Below.refl _ _) | (with_reducible assumption) | (with_reducible refine bw_alloc ?_) | (with_reducible refine bw_drew ?_) | (with_reducible refine bw_drewN ?_) | (with_reducible refine bw_set ?_ (by first | (simp; done) | (dsimp only; omega))) | (with_reducible refine bw_via (by assumption) ?_))
    · exact ⟨_, rfl, by first | omega | (simp only [World.size_setCell]; omega), by simp, by simp [go_sem, noC]⟩
  · have hh : hearH ⟨me, e, s, t, c, k⟩ ⟨1, src, me, ep, mc⟩ = (⟨me, e, s, t, c, k⟩, none, 10) := by simp [hearH, h2]
    rw [hh]
    clear hh
    go_enter Try.func12, Try.ntmps12; go_wp2_with fail; refine (right_hand_ref ⟨me, e, s, t, c, k⟩ _ hc).mono ?_; rw [hr]; rintro r w1 ⟨rfl, hb1⟩; obtain ⟨c_hb1, f_hb1, z_hb1⟩ := bcell hb1; have z0_hb1 := z_hb1 (w.heap.size) (by first | omega | (simp only [World.size_alloc, World.size_setCell, World.size_drew, World.heap_drewN] <;> omega)); have z1_hb1 := z_hb1 (w.heap.size + 1) (by first | omega | (simp only [World.size_alloc, World.size_setCell, World.size_drew, World.heap_drewN] <;> omega)); have z2_hb1 := z_hb1 (w.heap.size + 2) (by first | omega | (simp only [World.size_alloc, World.size_setCell, World.size_drew, World.heap_drewN] <;> omega)); clear z_hb1; go_wp2_with fail; refine (may_ref ⟨1, src, me, ep, mc⟩ _ hcm).mono ?_; rw [hm]; rintro r w2 ⟨rfl, hb2⟩; obtain ⟨c_hb2, f_hb2, z_hb2⟩ := bcell hb2; have z0_hb2 := z_hb2 (w.heap.size) (by first | omega | (simp only [World.size_alloc, World.size_setCell, World.size_drew, World.heap_drewN] <;> omega)); have z1_hb2 := z_hb2 (w.heap.size + 1) (by first | omega | (simp only [World.size_alloc, World.size_setCell, World.size_drew, World.heap_drewN] <;> omega)); have z2_hb2 := z_hb2 (w.heap.size + 2) (by first | omega | (simp only [World.size_alloc, World.size_setCell, World.size_drew, World.heap_drewN] <;> omega)); clear z_hb2
    have u0 : w2.cell? ⟨w.heap.size, 0, none⟩ = some (.int .u8 me) := (by simp [go_sem, c_hb2, c_hb1, z0_hb1]); have u1 : w2.cell? ⟨w.heap.size, 1, none⟩ = some (.int .i64 e) := (by simp [go_sem, c_hb2, c_hb1, z0_hb1]); have u2 : w2.cell? ⟨w.heap.size, 2, none⟩ = some (.int .i64 s) := (by simp [go_sem, c_hb2, c_hb1, z0_hb1]); have u3 : w2.cell? ⟨w.heap.size, 3, none⟩ = some (.int .u8 t) := (by simp [go_sem, c_hb2, c_hb1, z0_hb1]); have u4 : w2.cell? ⟨w.heap.size, 4, none⟩ = some (.string c) := (by simp [go_sem, c_hb2, c_hb1, z0_hb1]); have u5 : w2.cell? ⟨w.heap.size, 5, none⟩ = some (.bool k) := (by simp [go_sem, c_hb2, c_hb1, z0_hb1])
    have m0 : w2.cell? ⟨w.heap.size + 1, 0, none⟩ = some (.int .i64 1) := (by simp [go_sem, c_hb2, c_hb1, z1_hb1]); have m1 : w2.cell? ⟨w.heap.size + 1, 1, none⟩ = some (.int .u8 src) := (by simp [go_sem, c_hb2, c_hb1, z1_hb1]); have m2 : w2.cell? ⟨w.heap.size + 1, 2, none⟩ = some (.int .u8 me) := (by simp [go_sem, c_hb2, c_hb1, z1_hb1]); have m3 : w2.cell? ⟨w.heap.size + 1, 3, none⟩ = some (.int .i64 ep) := (by simp [go_sem, c_hb2, c_hb1, z1_hb1]); have m4 : w2.cell? ⟨w.heap.size + 1, 4, none⟩ = some (.string mc) := (by simp [go_sem, c_hb2, c_hb1, z1_hb1])
    have v0 : w2.cell? ⟨w.heap.size + 1 + 1, 0, none⟩ = some (.int .u8 0) := (by simp [go_sem, c_hb2, c_hb1, z2_hb1]); have v1 : w2.cell? ⟨w.heap.size + 1 + 1, 1, none⟩ = some (.int .i64 0) := (by simp [go_sem, c_hb2, c_hb1, z2_hb1]); have v2 : w2.cell? ⟨w.heap.size + 1 + 1, 2, none⟩ = some (.int .i64 0) := (by simp [go_sem, c_hb2, c_hb1, z2_hb1]); have v3 : w2.cell? ⟨w.heap.size + 1 + 1, 3, none⟩ = some (.int .u8 0) := (by simp [go_sem, c_hb2, c_hb1, z2_hb1]); have v4 : w2.cell? ⟨w.heap.size + 1 + 1, 4, none⟩ = some (.string ⟨#[]⟩) := (by simp [go_sem, c_hb2, c_hb1, z2_hb1]); have v5 : w2.cell? ⟨w.heap.size + 1 + 1, 5, none⟩ = some (.bool false) := (by simp [go_sem, c_hb2, c_hb1, z2_hb1]); have v6 : w2.cell? ⟨w.heap.size + 1 + 1, 6, none⟩ = some (.slice none 0 0) := (by simp [go_sem, c_hb2, c_hb1, z2_hb1]); have v7 : w2.cell? ⟨w.heap.size + 1 + 1, 7, none⟩ = some (.int .i64 0) := (by simp [go_sem, c_hb2, c_hb1, z2_hb1])
    have f2 : ∀ o, w2.frozen? ⟨w.heap.size + 1 + 1, o, none⟩ = false := by intro o; simp [go_sem, f_hb2, f_hb1, z2_hb1]
    clear c_hb1 f_hb1 c_hb2 f_hb2
    go_wp2_with fail
    simp [bodyPost, results, Try.results12, go_sem, *]
    refine told_mk ?_ rfl
    repeat (first | (with_reducible exact Below.refl _ _) | (with_reducible assumption) | (with_reducible refine bw_alloc ?_) | (with_reducible refine bw_drew ?_) | (with_reducible refine bw_drewN ?_) | (with_reducible refine bw_set ?_ (by first | (simp; done) | (dsimp only; omega))) | (with_reducible refine bw_via (by assumption) ?_))

set_option maxHeartbeats 8000000 in
set_option maxRecDepth 100000 in
theorem hear_ref4 (me e s t src ep : Int) (c mc : ByteArray) (k : Bool) (w : World) (hr : rightS ⟨me, e, s, t, c, k⟩ = true) (hm : mayM ⟨4, src, me, ep, mc⟩ = true) (hc : c.size ≤ maxLen) (hcm : mc.size ≤ maxLen) : Calls Try.prog 12 #[.agg #[.int .u8 me, .int .i64 e, .int .i64 s, .int .u8 t, .string c, .bool k], .agg #[.int .i64 4, .int .u8 src, .int .u8 me, .int .i64 ep, .string mc]] w (Told (hearH ⟨me, e, s, t, c, k⟩ ⟨4, src, me, ep, mc⟩) w) := by
  have hf := may_facts hm
  obtain ⟨_, hp1, hp2, _⟩ := hf
  dsimp only at hp1 hp2
  by_cases hg : k = true ∧ e = ep - 1 ∧ s = 2 ∧ t = src
  · have hh : hearH ⟨me, e, s, t, c, k⟩ ⟨4, src, me, ep, mc⟩ = (⟨me, e, s, t, noC, false⟩, none, 0) := by simp [hearH, hg]
    rw [hh]
    clear hh
    obtain ⟨rfl, hg2, rfl, rfl⟩ := hg
    obtain rfl : ep = e + 1 := by omega
    have hg3 : ((e : Int) != (e + 1 - 1)) = false := by simp
    have he1 : e + 1 - 1 = e := by omega
    clear hg2
    have He1 := Lib.hid he1
    clear he1
    go_enter Try.func12, Try.ntmps12; go_wp2_with fail; refine (right_hand_ref ⟨me, e, 2, t, c, true⟩ _ hc).mono ?_; rw [hr]; rintro r w1 ⟨rfl, hb1⟩; obtain ⟨c_hb1, f_hb1, z_hb1⟩ := bcell hb1; have z0_hb1 := z_hb1 (w.heap.size) (by first | omega | (simp only [World.size_alloc, World.size_setCell, World.size_drew, World.heap_drewN] <;> omega)); have z1_hb1 := z_hb1 (w.heap.size + 1) (by first | omega | (simp only [World.size_alloc, World.size_setCell, World.size_drew, World.heap_drewN] <;> omega)); have z2_hb1 := z_hb1 (w.heap.size + 2) (by first | omega | (simp only [World.size_alloc, World.size_setCell, World.size_drew, World.heap_drewN] <;> omega)); clear z_hb1; go_wp2_with fail; refine (may_ref ⟨4, t, me, e + 1, mc⟩ _ hcm).mono ?_; rw [hm]; rintro r w2 ⟨rfl, hb2⟩; obtain ⟨c_hb2, f_hb2, z_hb2⟩ := bcell hb2; have z0_hb2 := z_hb2 (w.heap.size) (by first | omega | (simp only [World.size_alloc, World.size_setCell, World.size_drew, World.heap_drewN] <;> omega)); have z1_hb2 := z_hb2 (w.heap.size + 1) (by first | omega | (simp only [World.size_alloc, World.size_setCell, World.size_drew, World.heap_drewN] <;> omega)); have z2_hb2 := z_hb2 (w.heap.size + 2) (by first | omega | (simp only [World.size_alloc, World.size_setCell, World.size_drew, World.heap_drewN] <;> omega)); clear z_hb2
    have u0 : w2.cell? ⟨w.heap.size, 0, none⟩ = some (.int .u8 me) := (by simp [go_sem, c_hb2, c_hb1, z0_hb1]); have u1 : w2.cell? ⟨w.heap.size, 1, none⟩ = some (.int .i64 e) := (by simp [go_sem, c_hb2, c_hb1, z0_hb1]); have u2 : w2.cell? ⟨w.heap.size, 2, none⟩ = some (.int .i64 2) := (by simp [go_sem, c_hb2, c_hb1, z0_hb1]); have u3 : w2.cell? ⟨w.heap.size, 3, none⟩ = some (.int .u8 t) := (by simp [go_sem, c_hb2, c_hb1, z0_hb1]); have u4 : w2.cell? ⟨w.heap.size, 4, none⟩ = some (.string c) := (by simp [go_sem, c_hb2, c_hb1, z0_hb1]); have u5 : w2.cell? ⟨w.heap.size, 5, none⟩ = some (.bool true) := (by simp [go_sem, c_hb2, c_hb1, z0_hb1])
    have m0 : w2.cell? ⟨w.heap.size + 1, 0, none⟩ = some (.int .i64 4) := (by simp [go_sem, c_hb2, c_hb1, z1_hb1]); have m1 : w2.cell? ⟨w.heap.size + 1, 1, none⟩ = some (.int .u8 t) := (by simp [go_sem, c_hb2, c_hb1, z1_hb1]); have m2 : w2.cell? ⟨w.heap.size + 1, 2, none⟩ = some (.int .u8 me) := (by simp [go_sem, c_hb2, c_hb1, z1_hb1]); have m3 : w2.cell? ⟨w.heap.size + 1, 3, none⟩ = some (.int .i64 (e + 1)) := (by simp [go_sem, c_hb2, c_hb1, z1_hb1]); have m4 : w2.cell? ⟨w.heap.size + 1, 4, none⟩ = some (.string mc) := (by simp [go_sem, c_hb2, c_hb1, z1_hb1])
    have v0 : w2.cell? ⟨w.heap.size + 1 + 1, 0, none⟩ = some (.int .u8 0) := (by simp [go_sem, c_hb2, c_hb1, z2_hb1]); have v1 : w2.cell? ⟨w.heap.size + 1 + 1, 1, none⟩ = some (.int .i64 0) := (by simp [go_sem, c_hb2, c_hb1, z2_hb1]); have v2 : w2.cell? ⟨w.heap.size + 1 + 1, 2, none⟩ = some (.int .i64 0) := (by simp [go_sem, c_hb2, c_hb1, z2_hb1]); have v3 : w2.cell? ⟨w.heap.size + 1 + 1, 3, none⟩ = some (.int .u8 0) := (by simp [go_sem, c_hb2, c_hb1, z2_hb1]); have v4 : w2.cell? ⟨w.heap.size + 1 + 1, 4, none⟩ = some (.string ⟨#[]⟩) := (by simp [go_sem, c_hb2, c_hb1, z2_hb1]); have v5 : w2.cell? ⟨w.heap.size + 1 + 1, 5, none⟩ = some (.bool false) := (by simp [go_sem, c_hb2, c_hb1, z2_hb1]); have v6 : w2.cell? ⟨w.heap.size + 1 + 1, 6, none⟩ = some (.slice none 0 0) := (by simp [go_sem, c_hb2, c_hb1, z2_hb1]); have v7 : w2.cell? ⟨w.heap.size + 1 + 1, 7, none⟩ = some (.int .i64 0) := (by simp [go_sem, c_hb2, c_hb1, z2_hb1])
    have f1 : ∀ o, w2.frozen? ⟨w.heap.size, o, none⟩ = false := by intro o; simp [go_sem, f_hb2, f_hb1, z0_hb1]
    have f2 : ∀ o, w2.frozen? ⟨w.heap.size + 1 + 1, o, none⟩ = false := by intro o; simp [go_sem, f_hb2, f_hb1, z2_hb1]
    clear c_hb1 f_hb1 c_hb2 f_hb2
    go_wp2_with fail
    simp [bodyPost, results, Try.results12, go_sem, *]
    refine told_mk (y := ⟨me, e, 2, t, noC, false⟩) ?_ rfl
    repeat (first | (with_reducible exact Below.refl _ _) | (with_reducible assumption) | (with_reducible refine bw_alloc ?_) | (with_reducible refine bw_drew ?_) | (with_reducible refine bw_drewN ?_) | (with_reducible refine bw_set ?_ (by first | (simp; done) | (dsimp only; omega))) | (with_reducible refine bw_via (by assumption) ?_))
  · have hh : hearH ⟨me, e, s, t, c, k⟩ ⟨4, src, me, ep, mc⟩ = (⟨me, e, s, t, c, k⟩, none, 10) := by simp [hearH, hg]
    rw [hh]
    clear hh
    go_enter Try.func12, Try.ntmps12; go_wp2_with fail; refine (right_hand_ref ⟨me, e, s, t, c, k⟩ _ hc).mono ?_; rw [hr]; rintro r w1 ⟨rfl, hb1⟩; obtain ⟨c_hb1, f_hb1, z_hb1⟩ := bcell hb1; have z0_hb1 := z_hb1 (w.heap.size) (by first | omega | (simp only [World.size_alloc, World.size_setCell, World.size_drew, World.heap_drewN] <;> omega)); have z1_hb1 := z_hb1 (w.heap.size + 1) (by first | omega | (simp only [World.size_alloc, World.size_setCell, World.size_drew, World.heap_drewN] <;> omega)); have z2_hb1 := z_hb1 (w.heap.size + 2) (by first | omega | (simp only [World.size_alloc, World.size_setCell, World.size_drew, World.heap_drewN] <;> omega)); clear z_hb1; go_wp2_with fail; refine (may_ref ⟨4, src, me, ep, mc⟩ _ hcm).mono ?_; rw [hm]; rintro r w2 ⟨rfl, hb2⟩; obtain ⟨c_hb2, f_hb2, z_hb2⟩ := bcell hb2; have z0_hb2 := z_hb2 (w.heap.size) (by first | omega | (simp only [World.size_alloc, World.size_setCell, World.size_drew, World.heap_drewN] <;> omega)); have z1_hb2 := z_hb2 (w.heap.size + 1) (by first | omega | (simp only [World.size_alloc, World.size_setCell, World.size_drew, World.heap_drewN] <;> omega)); have z2_hb2 := z_hb2 (w.heap.size + 2) (by first | omega | (simp only [World.size_alloc, World.size_setCell, World.size_drew, World.heap_drewN] <;> omega)); clear z_hb2
    have u0 : w2.cell? ⟨w.heap.size, 0, none⟩ = some (.int .u8 me) := (by simp [go_sem, c_hb2, c_hb1, z0_hb1]); have u1 : w2.cell? ⟨w.heap.size, 1, none⟩ = some (.int .i64 e) := (by simp [go_sem, c_hb2, c_hb1, z0_hb1]); have u2 : w2.cell? ⟨w.heap.size, 2, none⟩ = some (.int .i64 s) := (by simp [go_sem, c_hb2, c_hb1, z0_hb1]); have u3 : w2.cell? ⟨w.heap.size, 3, none⟩ = some (.int .u8 t) := (by simp [go_sem, c_hb2, c_hb1, z0_hb1]); have u4 : w2.cell? ⟨w.heap.size, 4, none⟩ = some (.string c) := (by simp [go_sem, c_hb2, c_hb1, z0_hb1]); have u5 : w2.cell? ⟨w.heap.size, 5, none⟩ = some (.bool k) := (by simp [go_sem, c_hb2, c_hb1, z0_hb1])
    have m0 : w2.cell? ⟨w.heap.size + 1, 0, none⟩ = some (.int .i64 4) := (by simp [go_sem, c_hb2, c_hb1, z1_hb1]); have m1 : w2.cell? ⟨w.heap.size + 1, 1, none⟩ = some (.int .u8 src) := (by simp [go_sem, c_hb2, c_hb1, z1_hb1]); have m2 : w2.cell? ⟨w.heap.size + 1, 2, none⟩ = some (.int .u8 me) := (by simp [go_sem, c_hb2, c_hb1, z1_hb1]); have m3 : w2.cell? ⟨w.heap.size + 1, 3, none⟩ = some (.int .i64 ep) := (by simp [go_sem, c_hb2, c_hb1, z1_hb1]); have m4 : w2.cell? ⟨w.heap.size + 1, 4, none⟩ = some (.string mc) := (by simp [go_sem, c_hb2, c_hb1, z1_hb1])
    have v0 : w2.cell? ⟨w.heap.size + 1 + 1, 0, none⟩ = some (.int .u8 0) := (by simp [go_sem, c_hb2, c_hb1, z2_hb1]); have v1 : w2.cell? ⟨w.heap.size + 1 + 1, 1, none⟩ = some (.int .i64 0) := (by simp [go_sem, c_hb2, c_hb1, z2_hb1]); have v2 : w2.cell? ⟨w.heap.size + 1 + 1, 2, none⟩ = some (.int .i64 0) := (by simp [go_sem, c_hb2, c_hb1, z2_hb1]); have v3 : w2.cell? ⟨w.heap.size + 1 + 1, 3, none⟩ = some (.int .u8 0) := (by simp [go_sem, c_hb2, c_hb1, z2_hb1]); have v4 : w2.cell? ⟨w.heap.size + 1 + 1, 4, none⟩ = some (.string ⟨#[]⟩) := (by simp [go_sem, c_hb2, c_hb1, z2_hb1]); have v5 : w2.cell? ⟨w.heap.size + 1 + 1, 5, none⟩ = some (.bool false) := (by simp [go_sem, c_hb2, c_hb1, z2_hb1]); have v6 : w2.cell? ⟨w.heap.size + 1 + 1, 6, none⟩ = some (.slice none 0 0) := (by simp [go_sem, c_hb2, c_hb1, z2_hb1]); have v7 : w2.cell? ⟨w.heap.size + 1 + 1, 7, none⟩ = some (.int .i64 0) := (by simp [go_sem, c_hb2, c_hb1, z2_hb1])
    have f1 : ∀ o, w2.frozen? ⟨w.heap.size, o, none⟩ = false := by intro o; simp [go_sem, f_hb2, f_hb1, z0_hb1]
    have f2 : ∀ o, w2.frozen? ⟨w.heap.size + 1 + 1, o, none⟩ = false := by intro o; simp [go_sem, f_hb2, f_hb1, z2_hb1]
    clear c_hb1 f_hb1 c_hb2 f_hb2
    go_wp2_with fail
    all_goals first | (exfalso; exact hg ⟨by simpa using ‹(!k) = false›, by assumption, by assumption, by assumption⟩) | skip
    all_goals (simp [bodyPost, results, Try.results12, go_sem, *])
    all_goals (refine told_mk ?_ rfl)
    all_goals (repeat (first | (with_reducible exact Below.refl _ _) | (with_reducible assumption) | (with_reducible refine bw_alloc ?_) | (with_reducible refine bw_drew ?_) | (with_reducible refine bw_drewN ?_) | (with_reducible refine bw_set ?_ (by first | (simp; done) | (dsimp only; omega))) | (with_reducible refine bw_via (by assumption) ?_)))

theorem hear_ref (x : S) (m : M) (w : World) (hc : x.c.size ≤ maxLen) (hcm : m.c.size ≤ maxLen) :
    Calls Try.prog 12 #[.agg #[.int .u8 x.me, .int .i64 x.e, .int .i64 x.s, .int .u8 x.t, .string x.c, .bool x.k], .agg #[.int .i64 m.kind, .int .u8 m.src, .int .u8 m.dst, .int .i64 m.ep, .string m.c]] w (Told (hearA x m) w) := by
  by_cases hbad : rightS x = false ∨ mayM m = false ∨ m.dst ≠ x.me
  · have h : hearA x m = (x, none, 2) := by
      unfold hearA
      rcases hbad with h | h | h
      · rw [if_pos h]
      · by_cases h2 : rightS x = false
        · rw [if_pos h2]
        · rw [if_neg h2, if_pos h]
      · by_cases h2 : rightS x = false
        · rw [if_pos h2]
        · rw [if_neg h2]
          by_cases h3 : mayM m = false
          · rw [if_pos h3]
          · rw [if_neg h3, if_pos h]
    rw [h]
    exact hear_ref_bad x m w hc hcm hbad
  · have hr : rightS x = true := by cases h : rightS x <;> simp_all
    have hm : mayM m = true := by cases h : mayM m <;> simp_all
    have hd : m.dst = x.me := by
      apply Classical.byContradiction; intro h; exact hbad (.inr (.inr h))
    have h : hearA x m = hearH x m := by simp [hearA, hr, hm, hd]
    rw [h]
    have hk := (may_facts hm).1
    obtain ⟨me, e, s, t, c, k⟩ := x
    obtain ⟨kind, src, dst, ep, mc⟩ := m
    dsimp only at hc hcm hd hk ⊢
    subst hd
    rcases hk with rfl | rfl | rfl | rfl
    · exact hear_ref1 _ _ _ _ _ _ _ _ _ _ hr hm hc hcm
    · exact hear_ref2 _ _ _ _ _ _ _ _ _ _ hr hm hc hcm
    · exact hear_ref3 _ _ _ _ _ _ _ _ _ _ hr hm hc hcm
    · exact hear_ref4 _ _ _ _ _ _ _ _ _ _ hr hm hc hcm
end Go.Proofs.Ytamlkmnkdcoebaa.Hand
