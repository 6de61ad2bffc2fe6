/- The answers that the document fixes: 'alive' says true. -/
import Derived.Test.YtamlkmnkdcoebaaHandTop
import Derived.Test.YtamlkmnkdcoebaaHandSmall
namespace Go.Proofs.Ytamlkmnkdcoebaa.HandAlive
open Go.RowKit LeaseSpec Flat Lease HandSpec Hand Go.Proofs.YtamlkmnkdcoebaaW.PrintLast
set_option linter.unusedSimpArgs false
set_option linter.unusedVariables false

set_option maxHeartbeats 8000000 in
set_option maxRecDepth 100000 in
theorem alive_any (w : World) : Calls Try.prog 9 #[] w fun r w' => r = .returned (.bool true) ∧ Below w.heap.size w w' := by
  have k1 : askH ⟨1, 1, 1, 0, ⟨#[99]⟩, false⟩ 2 = (⟨1, 1, 2, 1, ⟨#[]⟩⟩, 0) := by simp [askH, hearA, hearH, againH, givesH, mayM, rightS, none_, noC, noM, rightB, epochB, speaksB, give, take, ByteArray.toList_eq, ByteArray.size]
  have k2 : hearA ⟨2, 0, 0, 0, ⟨#[]⟩, false⟩ ⟨1, 1, 2, 1, ⟨#[]⟩⟩ = (⟨2, 0, 0, 0, ⟨#[]⟩, false⟩, some ⟨2, 2, 1, 1, ⟨#[]⟩⟩, 0) := by simp [askH, hearA, hearH, againH, givesH, mayM, rightS, none_, noC, noM, rightB, epochB, speaksB, give, take, ByteArray.toList_eq, ByteArray.size]
  have k3 : hearA ⟨1, 1, 1, 0, ⟨#[99]⟩, false⟩ ⟨2, 2, 1, 1, ⟨#[]⟩⟩ = (⟨1, 1, 2, 2, ⟨#[99]⟩, true⟩, some ⟨3, 1, 2, 2, ⟨#[99]⟩⟩, 0) := by simp [askH, hearA, hearH, againH, givesH, mayM, rightS, none_, noC, noM, rightB, epochB, speaksB, give, take, ByteArray.toList_eq, ByteArray.size]
  have k4 : againH ⟨1, 1, 2, 2, ⟨#[99]⟩, true⟩ = some ⟨3, 1, 2, 2, ⟨#[99]⟩⟩ := by simp [askH, hearA, hearH, againH, givesH, mayM, rightS, none_, noC, noM, rightB, epochB, speaksB, give, take, ByteArray.toList_eq, ByteArray.size]
  have k5 : hearA ⟨2, 0, 0, 0, ⟨#[]⟩, false⟩ ⟨3, 1, 2, 2, ⟨#[99]⟩⟩ = (⟨2, 2, 1, 0, ⟨#[99]⟩, false⟩, some ⟨4, 2, 1, 2, ⟨#[]⟩⟩, 0) := by simp [askH, hearA, hearH, againH, givesH, mayM, rightS, none_, noC, noM, rightB, epochB, speaksB, give, take, ByteArray.toList_eq, ByteArray.size]
  have k6 : hearA ⟨1, 1, 2, 2, ⟨#[99]⟩, true⟩ ⟨4, 2, 1, 2, ⟨#[]⟩⟩ = (⟨1, 1, 2, 2, ⟨#[]⟩, false⟩, none, 0) := by simp [askH, hearA, hearH, againH, givesH, mayM, rightS, none_, noC, noM, rightB, epochB, speaksB, give, take, ByteArray.toList_eq, ByteArray.size]
  have k7 : rightS ⟨1, 1, 2, 2, ⟨#[]⟩, false⟩ = true := by simp [askH, hearA, hearH, againH, givesH, mayM, rightS, none_, noC, noM, rightB, epochB, speaksB, give, take, ByteArray.toList_eq, ByteArray.size]
  have k8 : speaksB 2 1 0 2 = true := by decide
  have H1 := Lib.hid (ask_any ⟨1, 1, 1, 0, ⟨#[99]⟩, false⟩ 2)
  rw [k1] at H1
  have G1 := Lib.hid (fun w => hear_top ⟨2, 0, 0, 0, ⟨#[]⟩, false⟩ ⟨1, 1, 2, 1, ⟨#[]⟩⟩ w (by decide) (by decide))
  have G2 := Lib.hid (fun w => hear_top ⟨1, 1, 1, 0, ⟨#[99]⟩, false⟩ ⟨2, 2, 1, 1, ⟨#[]⟩⟩ w (by decide) (by decide))
  have G3 := Lib.hid (fun w => hear_top ⟨2, 0, 0, 0, ⟨#[]⟩, false⟩ ⟨3, 1, 2, 2, ⟨#[99]⟩⟩ w (by decide) (by decide))
  have G4 := Lib.hid (fun w => hear_top ⟨1, 1, 2, 2, ⟨#[99]⟩, true⟩ ⟨4, 2, 1, 2, ⟨#[]⟩⟩ w (by decide) (by decide))
  have K2 := Lib.hid k2; have K3 := Lib.hid k3; have K4 := Lib.hid k4; have K5 := Lib.hid k5; have K6 := Lib.hid k6; have K7 := Lib.hid k7; have K8 := Lib.hid k8
  clear k1 k2 k3 k4 k5 k6 k7 k8
  go_enter Try.func9, Try.ntmps9
  go_wp2_with fail
  refine (H1.out _ (by decide)).mono ?_
  rintro r w1 ⟨rfl, hb1⟩
  obtain ⟨c_hb1, f_hb1, z_hb1⟩ := bcell hb1; have z0_hb1 := z_hb1 (w.heap.size) (by first | omega | (simp only [World.size_alloc, World.size_setCell, World.size_drew, World.heap_drewN] <;> omega)); have z1_hb1 := z_hb1 (w.heap.size + 1) (by first | omega | (simp only [World.size_alloc, World.size_setCell, World.size_drew, World.heap_drewN] <;> omega)); clear z_hb1
  have a0 : w1.cell? ⟨w.heap.size, 0, none⟩ = some (.int .u8 1) := (by simp [go_sem, c_hb1]); have a1 : w1.cell? ⟨w.heap.size, 1, none⟩ = some (.int .i64 1) := (by simp [go_sem, c_hb1]); have a2 : w1.cell? ⟨w.heap.size, 2, none⟩ = some (.int .i64 1) := (by simp [go_sem, c_hb1]); have a3 : w1.cell? ⟨w.heap.size, 3, none⟩ = some (.int .u8 0) := (by simp [go_sem, c_hb1]); have a4 : w1.cell? ⟨w.heap.size, 4, none⟩ = some (.string ⟨#[99]⟩) := (by simp [go_sem, c_hb1]); have a5 : w1.cell? ⟨w.heap.size, 5, none⟩ = some (.bool false) := (by simp [go_sem, c_hb1])
  have b0 : w1.cell? ⟨w.heap.size + 1, 0, none⟩ = some (.int .u8 2) := (by simp [go_sem, c_hb1]); have b1 : w1.cell? ⟨w.heap.size + 1, 1, none⟩ = some (.int .i64 0) := (by simp [go_sem, c_hb1]); have b2 : w1.cell? ⟨w.heap.size + 1, 2, none⟩ = some (.int .i64 0) := (by simp [go_sem, c_hb1]); have b3 : w1.cell? ⟨w.heap.size + 1, 3, none⟩ = some (.int .u8 0) := (by simp [go_sem, c_hb1]); have b4 : w1.cell? ⟨w.heap.size + 1, 4, none⟩ = some (.string ⟨#[]⟩) := (by simp [go_sem, c_hb1]); have b5 : w1.cell? ⟨w.heap.size + 1, 5, none⟩ = some (.bool false) := (by simp [go_sem, c_hb1])
  have fa : ∀ o, w1.frozen? ⟨w.heap.size, o, none⟩ = false := by intro o; simp [go_sem, f_hb1]
  have fb : ∀ o, w1.frozen? ⟨w.heap.size + 1, o, none⟩ = false := by intro o; simp [go_sem, f_hb1]
  clear c_hb1 f_hb1
  go_wp2_with fail
  generalize h2 : World.alloc w1 _ = v1
  obtain ⟨hb2, n2, m⟩ := alloc_facts h2
  clear h2
  have a0 := stay hb2 z0_hb1 a0
  have a1 := stay hb2 z0_hb1 a1
  have a2 := stay hb2 z0_hb1 a2
  have a3 := stay hb2 z0_hb1 a3
  have a4 := stay hb2 z0_hb1 a4
  have a5 := stay hb2 z0_hb1 a5
  have b0 := stay hb2 z1_hb1 b0
  have b1 := stay hb2 z1_hb1 b1
  have b2 := stay hb2 z1_hb1 b2
  have b3 := stay hb2 z1_hb1 b3
  have b4 := stay hb2 z1_hb1 b4
  have b5 := stay hb2 z1_hb1 b5
  have fa : ∀ o, _ = false := fun o => stayf hb2 z0_hb1 (fa o)
  have fb : ∀ o, _ = false := fun o => stayf hb2 z1_hb1 (fb o)
  have z0 : w.heap.size < v1.heap.size := by omega
  have z1 : w.heap.size + 1 < v1.heap.size := by omega
  refine (G1.out _).mono ?_
  unfold HearAPost
  rw [K2.out]
  rintro r w2 ⟨v, rfl, hb3, g, rfl, hg, hgl, g0, g1, g2, g3, g4⟩
  have a0 := stay hb3 z0 a0
  have a1 := stay hb3 z0 a1
  have a2 := stay hb3 z0 a2
  have a3 := stay hb3 z0 a3
  have a4 := stay hb3 z0 a4
  have a5 := stay hb3 z0 a5
  have b0 := stay hb3 z1 b0
  have b1 := stay hb3 z1 b1
  have b2 := stay hb3 z1 b2
  have b3 := stay hb3 z1 b3
  have b4 := stay hb3 z1 b4
  have b5 := stay hb3 z1 b5
  have fa : ∀ o, _ = false := fun o => stayf hb3 z0 (fa o)
  have fb : ∀ o, _ = false := fun o => stayf hb3 z1 (fb o)
  have z2 : w.heap.size < w2.heap.size := Nat.lt_of_lt_of_le z0 hb3.size
  have z3 : w.heap.size + 1 < w2.heap.size := Nat.lt_of_lt_of_le z1 hb3.size
  go_wp2_with fail
  have hne : ¬ w.heap.size = g := by omega
  have hne2 : ¬ g = w.heap.size := by omega
  have hne3 : ¬ w.heap.size + 1 = g := by omega
  have hne4 : ¬ g = w.heap.size + 1 := by omega
  generalize hW : World.setCell _ _ _ = W2
  have a0 : W2.cell? ⟨w.heap.size, 0, none⟩ = some (.int .u8 1) := (by subst hW; simp [go_sem, a0, a1, a2, a3, a4, a5]); have a1 : W2.cell? ⟨w.heap.size, 1, none⟩ = some (.int .i64 1) := (by subst hW; simp [go_sem, a0, a1, a2, a3, a4, a5]); have a2 : W2.cell? ⟨w.heap.size, 2, none⟩ = some (.int .i64 1) := (by subst hW; simp [go_sem, a0, a1, a2, a3, a4, a5]); have a3 : W2.cell? ⟨w.heap.size, 3, none⟩ = some (.int .u8 0) := (by subst hW; simp [go_sem, a0, a1, a2, a3, a4, a5]); have a4 : W2.cell? ⟨w.heap.size, 4, none⟩ = some (.string ⟨#[99]⟩) := (by subst hW; simp [go_sem, a0, a1, a2, a3, a4, a5]); have a5 : W2.cell? ⟨w.heap.size, 5, none⟩ = some (.bool false) := (by subst hW; simp [go_sem, a0, a1, a2, a3, a4, a5])
  have b0 : W2.cell? ⟨w.heap.size + 1, 0, none⟩ = some (.int .u8 2) := (by subst hW; simp [go_sem, b0, b1, b2, b3, b4, b5]); have b1 : W2.cell? ⟨w.heap.size + 1, 1, none⟩ = some (.int .i64 0) := (by subst hW; simp [go_sem, b0, b1, b2, b3, b4, b5]); have b2 : W2.cell? ⟨w.heap.size + 1, 2, none⟩ = some (.int .i64 0) := (by subst hW; simp [go_sem, b0, b1, b2, b3, b4, b5]); have b3 : W2.cell? ⟨w.heap.size + 1, 3, none⟩ = some (.int .u8 0) := (by subst hW; simp [go_sem, b0, b1, b2, b3, b4, b5]); have b4 : W2.cell? ⟨w.heap.size + 1, 4, none⟩ = some (.string ⟨#[]⟩) := (by subst hW; simp [go_sem, b0, b1, b2, b3, b4, b5]); have b5 : W2.cell? ⟨w.heap.size + 1, 5, none⟩ = some (.bool false) := (by subst hW; simp [go_sem, b0, b1, b2, b3, b4, b5])
  have g0 : W2.cell? ⟨g, 0, none⟩ = some (.int .i64 2) := (by subst hW; simp [go_sem, hne, hne2, hne3, hne4, g0, g1, g2, g3, g4]); have g1 : W2.cell? ⟨g, 1, none⟩ = some (.int .u8 2) := (by subst hW; simp [go_sem, hne, hne2, hne3, hne4, g0, g1, g2, g3, g4]); have g2 : W2.cell? ⟨g, 2, none⟩ = some (.int .u8 1) := (by subst hW; simp [go_sem, hne, hne2, hne3, hne4, g0, g1, g2, g3, g4]); have g3 : W2.cell? ⟨g, 3, none⟩ = some (.int .i64 1) := (by subst hW; simp [go_sem, hne, hne2, hne3, hne4, g0, g1, g2, g3, g4]); have g4 : W2.cell? ⟨g, 4, none⟩ = some (.string ⟨#[]⟩) := (by subst hW; simp [go_sem, hne, hne2, hne3, hne4, g0, g1, g2, g3, g4])
  have fa : ∀ o, W2.frozen? ⟨w.heap.size, o, none⟩ = false := by intro o; subst hW; simp [go_sem, fa]
  have fb : ∀ o, W2.frozen? ⟨w.heap.size + 1, o, none⟩ = false := by intro o; subst hW; simp [go_sem, fb]
  have z0 : w.heap.size < W2.heap.size := by subst hW; simp only [World.size_setCell]; exact z2
  have z1 : w.heap.size + 1 < W2.heap.size := by subst hW; simp only [World.size_setCell]; exact z3
  have hgl : g < W2.heap.size := by subst hW; simp only [World.size_setCell]; exact hgl
  have hB : Below w.heap.size w W2 := by subst hW; repeat (first | (with_reducible exact Below.refl _ _) | (with_reducible assumption) | (with_reducible refine bw_alloc ?_) | (with_reducible refine bw_drew ?_) | (with_reducible refine bw_drewN ?_) | (with_reducible refine bw_set ?_ (by first | (simp; done) | (dsimp only; omega))) | (with_reducible refine bw_via (by assumption) ?_))
  clear hW
  refine start_ (n := 12) (S := fun w' => Below W2.heap.size W2 w' ∧ ∀ b o, b < W2.heap.size → w'.cell? ⟨b, o, none⟩ = W2.cell? ⟨b, o, none⟩) (ds := [9]) #[false, false, false, false, false, false, false, false, false, false, false, false] (by kernel_rfl) rfl rfl ⟨(still_drew W2).1, (still_drew W2).2⟩ (fun hHeld => ?_)
  refine pure_ (i := 1) (N := some 42) (v := ?_) (a' := ?_) #[false, true, false, false, false, false, false, false, false, false, false, false] rfl rfl (by kernel_rfl) (fun _ _ _ h => h) (Or.inl ⟨by rfl, ?_⟩) ?_ ?_
  rotate_left
  · intro w'
    go_simp
    with_reducible rfl
  rotate_left
  · simp only [Act.put, List.setIfInBounds_toArray, List.set_cons_zero, List.set_cons_succ, i64_w, i32_w]
    rfl
  refine pure_ (i := 2) (N := some 43) (v := ?_) (a' := ?_) #[false, true, true, false, false, false, false, false, false, false, false, false] rfl rfl (by kernel_rfl) (fun _ _ _ h => h) (Or.inl ⟨by rfl, ?_⟩) ?_ ?_
  rotate_left
  · intro w'
    go_simp
    with_reducible rfl
  rotate_left
  · simp only [Act.put, List.setIfInBounds_toArray, List.set_cons_zero, List.set_cons_succ, i64_w, i32_w]
    rfl
  refine take_ (i := 0) (N := some 41) (v := ?_) (a' := ?_) #[true, true, true, false, false, false, false, false, false, false, false, false] rfl rfl (by kernel_rfl) (fun _ _ _ h => h) (Or.inl ⟨by rfl, ?_⟩) hHeld ?_ ?_
  rotate_left
  · rintro w' ⟨s0, s1⟩
    go_simp
    with_reducible rfl
  rotate_left
  · simp only [Act.put, List.setIfInBounds_toArray, List.set_cons_zero, List.set_cons_succ, i64_w, i32_w]
    rfl
  refine take_ (i := 3) (N := some 44) (v := ?_) (a' := ?_) #[true, true, true, true, false, false, false, false, false, false, false, false] rfl rfl (by kernel_rfl) (fun _ _ _ h => h) (Or.inl ⟨by rfl, ?_⟩) hHeld ?_ ?_
  rotate_left
  · rintro w' ⟨s0, s1⟩
    go_simp
    with_reducible rfl
  rotate_left
  · simp only [Act.put, List.setIfInBounds_toArray, List.set_cons_zero, List.set_cons_succ, i64_w, i32_w]
    rfl
  refine one_ (i := 4) (N := some 45) #[true, true, true, true, true, false, false, false, false, false, false, false] rfl rfl (by kernel_rfl) (by decide) (fun K hK => ?_)
  refine goes_ Try.func10 (by kernel_rfl) rfl #[.agg #[.int .u8 1, .int .i64 1, .int .i64 1, .int .u8 0, .string ⟨#[99]⟩, .bool false], .agg #[.int .i64 2, .int .u8 2, .int .u8 1, .int .i64 1, .string ⟨#[]⟩]] (by rfl) rfl rfl (by simp only [List.map_toArray, List.map_cons, List.map_nil]; rfl) ?_
  refine (G2.out _).mono ?_
  unfold HearAPost
  rw [K3.out]
  rintro r w3 ⟨v, rfl, hb, k, rfl, hk, hgl, g0, g1, g2, g3, g4⟩
  refine ⟨_, rfl, ?_⟩
  have a0 := stay hb z0 a0
  have a1 := stay hb z0 a1
  have a2 := stay hb z0 a2
  have a3 := stay hb z0 a3
  have a4 := stay hb z0 a4
  have a5 := stay hb z0 a5
  have b0 := stay hb z1 b0
  have b1 := stay hb z1 b1
  have b2 := stay hb z1 b2
  have b3 := stay hb z1 b3
  have b4 := stay hb z1 b4
  have b5 := stay hb z1 b5
  have fa : ∀ o, _ = false := fun o => stayf hb z0 (fa o)
  have fb : ∀ o, _ = false := fun o => stayf hb z1 (fb o)
  have z2 : w.heap.size < w3.heap.size := Nat.lt_of_lt_of_le z0 hb.size
  have z3 : w.heap.size + 1 < w3.heap.size := Nat.lt_of_lt_of_le z1 hb.size
  refine hK.out _ _ ⟨(still_keep hHeld hb).1, (still_keep hHeld hb).2⟩ (fun hHeld => ?_)
  clear hK K
  refine norm_ (a' := ?_) ?_ ?_
  rotate_left
  · show Act.put _ (some 45) _ = _
    simp only [Act.put, List.setIfInBounds_toArray, List.set_cons_zero, List.set_cons_succ, i64_w, i32_w]
    rfl
  refine pure_ (i := 5) (N := some 40) (v := ?_) (a' := ?_) #[true, true, true, true, true, true, false, false, false, false, false, false] rfl rfl (by kernel_rfl) (fun _ _ _ h => h) (Or.inl ⟨by rfl, ?_⟩) ?_ ?_
  rotate_left
  · intro w'
    go_simp
    with_reducible rfl
  rotate_left
  · simp only [Act.put, List.setIfInBounds_toArray, List.set_cons_zero, List.set_cons_succ, i64_w, i32_w]
    rfl
  refine pure_ (i := 6) (N := some 46) (v := ?_) (a' := ?_) #[true, true, true, true, true, true, true, false, false, false, false, false] rfl rfl (by kernel_rfl) (fun _ _ _ h => h) (Or.inl ⟨by rfl, ?_⟩) ?_ ?_
  rotate_left
  · intro w'
    go_simp
    with_reducible rfl
  rotate_left
  · simp only [Act.put, List.setIfInBounds_toArray, List.set_cons_zero, List.set_cons_succ, i64_w, i32_w]
    rfl
  refine pure_ (i := 7) (N := some 47) (v := ?_) (a' := ?_) #[true, true, true, true, true, true, true, true, false, false, false, false] rfl rfl (by kernel_rfl) (fun _ _ _ h => h) (Or.inl ⟨by rfl, ?_⟩) ?_ ?_
  rotate_left
  · intro w'
    go_simp
    with_reducible rfl
  rotate_left
  · simp only [Act.put, List.setIfInBounds_toArray, List.set_cons_zero, List.set_cons_succ, i64_w, i32_w]
    rfl
  refine pure_ (i := 8) (N := some 48) (v := ?_) (a' := ?_) #[true, true, true, true, true, true, true, true, true, false, false, false] rfl rfl (by kernel_rfl) (fun _ _ _ h => h) (Or.inl ⟨by rfl, ?_⟩) ?_ ?_
  rotate_left
  · intro w'
    go_simp
    with_reducible rfl
  rotate_left
  · simp only [Act.put, List.setIfInBounds_toArray, List.set_cons_zero, List.set_cons_succ, i64_w, i32_w]
    rfl
  refine last_ (i := 9) (N := none) #[true, true, true, true, true, true, true, true, true, true, false, false] rfl rfl (by kernel_rfl) (by decide) (fun K hK => ?_)
  refine skip_ (w1 := ?_) (by rfl) rfl ?_ ?_
  rotate_left
  · go_simp
    rfl
  refine hK.out _ _ ?_
  clear hK K
  refine pure_ (i := 10) (N := some 5) (v := ?_) (a' := ?_) #[true, true, true, true, true, true, true, true, true, true, true, false] rfl rfl (by kernel_rfl) (fun _ _ _ h => h) (Or.inl ⟨by rfl, ?_⟩) ?_ ?_
  rotate_left
  · intro w'
    go_simp
    with_reducible rfl
  rotate_left
  · simp only [Act.put, List.setIfInBounds_toArray, List.set_cons_zero, List.set_cons_succ, i64_w, i32_w]
    rfl
  refine pure_ (i := 11) (N := some 6) (v := ?_) (a' := ?_) #[true, true, true, true, true, true, true, true, true, true, true, true] rfl rfl (by kernel_rfl) (fun _ _ _ h => h) (Or.inl ⟨by rfl, ?_⟩) ?_ ?_
  rotate_left
  · intro w'
    go_simp
    with_reducible rfl
  rotate_left
  · simp only [Act.put, List.setIfInBounds_toArray, List.set_cons_zero, List.set_cons_succ, i64_w, i32_w]
    rfl
  refine done_ (by kernel_rfl) ?_

  have hk2 : W2.heap.size ≤ k := hk
  have hne : ¬ w.heap.size = k := by omega
  have hne2 : ¬ k = w.heap.size := by omega
  have hne3 : ¬ w.heap.size + 1 = k := by omega
  have hne4 : ¬ k = w.heap.size + 1 := by omega
  clear hk hk2
  go_wp2_with fail
  generalize hW : World.setCell _ _ _ = W3
  have a0 : W3.cell? ⟨w.heap.size, 0, none⟩ = some (.int .u8 1) := (by subst hW; simp [go_sem, a0, a1, a2, a3, a4, a5]); have a1 : W3.cell? ⟨w.heap.size, 1, none⟩ = some (.int .i64 1) := (by subst hW; simp [go_sem, a0, a1, a2, a3, a4, a5]); have a2 : W3.cell? ⟨w.heap.size, 2, none⟩ = some (.int .i64 2) := (by subst hW; simp [go_sem, a0, a1, a2, a3, a4, a5]); have a3 : W3.cell? ⟨w.heap.size, 3, none⟩ = some (.int .u8 2) := (by subst hW; simp [go_sem, a0, a1, a2, a3, a4, a5]); have a4 : W3.cell? ⟨w.heap.size, 4, none⟩ = some (.string ⟨#[99]⟩) := (by subst hW; simp [go_sem, a0, a1, a2, a3, a4, a5]); have a5 : W3.cell? ⟨w.heap.size, 5, none⟩ = some (.bool true) := (by subst hW; simp [go_sem, a0, a1, a2, a3, a4, a5])
  have b0 : W3.cell? ⟨w.heap.size + 1, 0, none⟩ = some (.int .u8 2) := (by subst hW; simp [go_sem, b0, b1, b2, b3, b4, b5]); have b1 : W3.cell? ⟨w.heap.size + 1, 1, none⟩ = some (.int .i64 0) := (by subst hW; simp [go_sem, b0, b1, b2, b3, b4, b5]); have b2 : W3.cell? ⟨w.heap.size + 1, 2, none⟩ = some (.int .i64 0) := (by subst hW; simp [go_sem, b0, b1, b2, b3, b4, b5]); have b3 : W3.cell? ⟨w.heap.size + 1, 3, none⟩ = some (.int .u8 0) := (by subst hW; simp [go_sem, b0, b1, b2, b3, b4, b5]); have b4 : W3.cell? ⟨w.heap.size + 1, 4, none⟩ = some (.string ⟨#[]⟩) := (by subst hW; simp [go_sem, b0, b1, b2, b3, b4, b5]); have b5 : W3.cell? ⟨w.heap.size + 1, 5, none⟩ = some (.bool false) := (by subst hW; simp [go_sem, b0, b1, b2, b3, b4, b5])
  have g0 : W3.cell? ⟨k, 0, none⟩ = some (.int .i64 3) := (by subst hW; simp [go_sem, hne, hne2, hne3, hne4, g0, g1, g2, g3, g4]); have g1 : W3.cell? ⟨k, 1, none⟩ = some (.int .u8 1) := (by subst hW; simp [go_sem, hne, hne2, hne3, hne4, g0, g1, g2, g3, g4]); have g2 : W3.cell? ⟨k, 2, none⟩ = some (.int .u8 2) := (by subst hW; simp [go_sem, hne, hne2, hne3, hne4, g0, g1, g2, g3, g4]); have g3 : W3.cell? ⟨k, 3, none⟩ = some (.int .i64 2) := (by subst hW; simp [go_sem, hne, hne2, hne3, hne4, g0, g1, g2, g3, g4]); have g4 : W3.cell? ⟨k, 4, none⟩ = some (.string ⟨#[99]⟩) := (by subst hW; simp [go_sem, hne, hne2, hne3, hne4, g0, g1, g2, g3, g4])
  have fa : ∀ o, W3.frozen? ⟨w.heap.size, o, none⟩ = false := by intro o; subst hW; simp [go_sem, fa]
  have fb : ∀ o, W3.frozen? ⟨w.heap.size + 1, o, none⟩ = false := by intro o; subst hW; simp [go_sem, fb]
  have z0 : w.heap.size < W3.heap.size := by subst hW; simp only [World.size_setCell]; exact z2
  have z1 : w.heap.size + 1 < W3.heap.size := by subst hW; simp only [World.size_setCell]; exact z3
  have hgl : k < W3.heap.size := by subst hW; simp only [World.size_setCell]; exact hgl
  have hB : Below w.heap.size w W3 := by subst hW; repeat (first | (with_reducible exact Below.refl _ _) | (with_reducible assumption) | (with_reducible refine bw_alloc ?_) | (with_reducible refine bw_drew ?_) | (with_reducible refine bw_drewN ?_) | (with_reducible refine bw_set ?_ (by first | (simp; done) | (dsimp only; omega))) | (with_reducible refine bw_via (by assumption) ?_))
  clear hW
  refine (again_any ⟨1, 1, 2, 2, ⟨#[99]⟩, true⟩ _ (by decide)).mono ?_
  unfold AgainPost
  rw [K4.out]
  rintro r w4 ⟨v, rfl, ⟨g9, rfl, _⟩, hb⟩
  have a0 := stay hb z0 a0
  have a1 := stay hb z0 a1
  have a2 := stay hb z0 a2
  have a3 := stay hb z0 a3
  have a4 := stay hb z0 a4
  have a5 := stay hb z0 a5
  have b0 := stay hb z1 b0
  have b1 := stay hb z1 b1
  have b2 := stay hb z1 b2
  have b3 := stay hb z1 b3
  have b4 := stay hb z1 b4
  have b5 := stay hb z1 b5
  have fa : ∀ o, _ = false := fun o => stayf hb z0 (fa o)
  have fb : ∀ o, _ = false := fun o => stayf hb z1 (fb o)
  have g0 := stay hb hgl g0
  have g1 := stay hb hgl g1
  have g2 := stay hb hgl g2
  have g3 := stay hb hgl g3
  have g4 := stay hb hgl g4
  have z0 := Nat.lt_of_lt_of_le z0 hb.size
  have z1 := Nat.lt_of_lt_of_le z1 hb.size
  have hgl := Nat.lt_of_lt_of_le hgl hb.size
  have hB4 : Below w.heap.size w w4 := by repeat (first | (with_reducible exact Below.refl _ _) | (with_reducible assumption) | (with_reducible refine bw_alloc ?_) | (with_reducible refine bw_drew ?_) | (with_reducible refine bw_drewN ?_) | (with_reducible refine bw_set ?_ (by first | (simp; done) | (dsimp only; omega))) | (with_reducible refine bw_via (by assumption) ?_))
  go_wp2_with fail
  refine start_ (n := 12) (S := fun w' => Below w4.heap.size w4 w' ∧ ∀ b o, b < w4.heap.size → w'.cell? ⟨b, o, none⟩ = w4.cell? ⟨b, o, none⟩) (ds := [9]) #[false, false, false, false, false, false, false, false, false, false, false, false] (by kernel_rfl) rfl rfl ⟨(still_drew w4).1, (still_drew w4).2⟩ (fun hHeld => ?_)
  refine pure_ (i := 1) (N := some 78) (v := ?_) (a' := ?_) #[false, true, false, false, false, false, false, false, false, false, false, false] rfl rfl (by kernel_rfl) (fun _ _ _ h => h) (Or.inl ⟨by rfl, ?_⟩) ?_ ?_
  rotate_left
  · intro w'
    go_simp
    with_reducible rfl
  rotate_left
  · simp only [Act.put, List.setIfInBounds_toArray, List.set_cons_zero, List.set_cons_succ, i64_w, i32_w]
    rfl
  refine pure_ (i := 2) (N := some 79) (v := ?_) (a' := ?_) #[false, true, true, false, false, false, false, false, false, false, false, false] rfl rfl (by kernel_rfl) (fun _ _ _ h => h) (Or.inl ⟨by rfl, ?_⟩) ?_ ?_
  rotate_left
  · intro w'
    go_simp
    with_reducible rfl
  rotate_left
  · simp only [Act.put, List.setIfInBounds_toArray, List.set_cons_zero, List.set_cons_succ, i64_w, i32_w]
    rfl
  refine take_ (i := 0) (N := some 77) (v := ?_) (a' := ?_) #[true, true, true, false, false, false, false, false, false, false, false, false] rfl rfl (by kernel_rfl) (fun _ _ _ h => h) (Or.inl ⟨by rfl, ?_⟩) hHeld ?_ ?_
  rotate_left
  · rintro w' ⟨s0, s1⟩
    go_simp
    with_reducible rfl
  rotate_left
  · simp only [Act.put, List.setIfInBounds_toArray, List.set_cons_zero, List.set_cons_succ, i64_w, i32_w]
    rfl
  refine take_ (i := 3) (N := some 80) (v := ?_) (a' := ?_) #[true, true, true, true, false, false, false, false, false, false, false, false] rfl rfl (by kernel_rfl) (fun _ _ _ h => h) (Or.inl ⟨by rfl, ?_⟩) hHeld ?_ ?_
  rotate_left
  · rintro w' ⟨s0, s1⟩
    go_simp
    with_reducible rfl
  rotate_left
  · simp only [Act.put, List.setIfInBounds_toArray, List.set_cons_zero, List.set_cons_succ, i64_w, i32_w]
    rfl
  refine one_ (i := 4) (N := some 81) #[true, true, true, true, true, false, false, false, false, false, false, false] rfl rfl (by kernel_rfl) (by decide) (fun K hK => ?_)
  refine goes_ Try.func10 (by kernel_rfl) rfl #[.agg #[.int .u8 2, .int .i64 0, .int .i64 0, .int .u8 0, .string ⟨#[]⟩, .bool false], .agg #[.int .i64 3, .int .u8 1, .int .u8 2, .int .i64 2, .string ⟨#[99]⟩]] (by rfl) rfl rfl (by simp only [List.map_toArray, List.map_cons, List.map_nil]; rfl) ?_
  refine (G3.out _).mono ?_
  unfold HearAPost
  rw [K5.out]
  rintro r w5 ⟨v, rfl, hb, k2, rfl, hk, hgl, g0, g1, g2, g3, g4⟩
  refine ⟨_, rfl, ?_⟩
  have a0 := stay hb z0 a0
  have a1 := stay hb z0 a1
  have a2 := stay hb z0 a2
  have a3 := stay hb z0 a3
  have a4 := stay hb z0 a4
  have a5 := stay hb z0 a5
  have b0 := stay hb z1 b0
  have b1 := stay hb z1 b1
  have b2 := stay hb z1 b2
  have b3 := stay hb z1 b3
  have b4 := stay hb z1 b4
  have b5 := stay hb z1 b5
  have fa : ∀ o, _ = false := fun o => stayf hb z0 (fa o)
  have fb : ∀ o, _ = false := fun o => stayf hb z1 (fb o)
  have z2 : w.heap.size < w5.heap.size := Nat.lt_of_lt_of_le z0 hb.size
  have z3 : w.heap.size + 1 < w5.heap.size := Nat.lt_of_lt_of_le z1 hb.size
  refine hK.out _ _ ⟨(still_keep hHeld hb).1, (still_keep hHeld hb).2⟩ (fun hHeld => ?_)
  clear hK K
  refine norm_ (a' := ?_) ?_ ?_
  rotate_left
  · show Act.put _ (some 81) _ = _
    simp only [Act.put, List.setIfInBounds_toArray, List.set_cons_zero, List.set_cons_succ, i64_w, i32_w]
    rfl
  refine pure_ (i := 5) (N := some 76) (v := ?_) (a' := ?_) #[true, true, true, true, true, true, false, false, false, false, false, false] rfl rfl (by kernel_rfl) (fun _ _ _ h => h) (Or.inl ⟨by rfl, ?_⟩) ?_ ?_
  rotate_left
  · intro w'
    go_simp
    with_reducible rfl
  rotate_left
  · simp only [Act.put, List.setIfInBounds_toArray, List.set_cons_zero, List.set_cons_succ, i64_w, i32_w]
    rfl
  refine pure_ (i := 6) (N := some 82) (v := ?_) (a' := ?_) #[true, true, true, true, true, true, true, false, false, false, false, false] rfl rfl (by kernel_rfl) (fun _ _ _ h => h) (Or.inl ⟨by rfl, ?_⟩) ?_ ?_
  rotate_left
  · intro w'
    go_simp
    with_reducible rfl
  rotate_left
  · simp only [Act.put, List.setIfInBounds_toArray, List.set_cons_zero, List.set_cons_succ, i64_w, i32_w]
    rfl
  refine pure_ (i := 7) (N := some 83) (v := ?_) (a' := ?_) #[true, true, true, true, true, true, true, true, false, false, false, false] rfl rfl (by kernel_rfl) (fun _ _ _ h => h) (Or.inl ⟨by rfl, ?_⟩) ?_ ?_
  rotate_left
  · intro w'
    go_simp
    with_reducible rfl
  rotate_left
  · simp only [Act.put, List.setIfInBounds_toArray, List.set_cons_zero, List.set_cons_succ, i64_w, i32_w]
    rfl
  refine pure_ (i := 8) (N := some 84) (v := ?_) (a' := ?_) #[true, true, true, true, true, true, true, true, true, false, false, false] rfl rfl (by kernel_rfl) (fun _ _ _ h => h) (Or.inl ⟨by rfl, ?_⟩) ?_ ?_
  rotate_left
  · intro w'
    go_simp
    with_reducible rfl
  rotate_left
  · simp only [Act.put, List.setIfInBounds_toArray, List.set_cons_zero, List.set_cons_succ, i64_w, i32_w]
    rfl
  refine last_ (i := 9) (N := none) #[true, true, true, true, true, true, true, true, true, true, false, false] rfl rfl (by kernel_rfl) (by decide) (fun K hK => ?_)
  refine skip_ (w1 := ?_) (by rfl) rfl ?_ ?_
  rotate_left
  · go_simp
    rfl
  refine hK.out _ _ ?_
  clear hK K
  refine pure_ (i := 10) (N := some 5) (v := ?_) (a' := ?_) #[true, true, true, true, true, true, true, true, true, true, true, false] rfl rfl (by kernel_rfl) (fun _ _ _ h => h) (Or.inl ⟨by rfl, ?_⟩) ?_ ?_
  rotate_left
  · intro w'
    go_simp
    with_reducible rfl
  rotate_left
  · simp only [Act.put, List.setIfInBounds_toArray, List.set_cons_zero, List.set_cons_succ, i64_w, i32_w]
    rfl
  refine pure_ (i := 11) (N := some 6) (v := ?_) (a' := ?_) #[true, true, true, true, true, true, true, true, true, true, true, true] rfl rfl (by kernel_rfl) (fun _ _ _ h => h) (Or.inl ⟨by rfl, ?_⟩) ?_ ?_
  rotate_left
  · intro w'
    go_simp
    with_reducible rfl
  rotate_left
  · simp only [Act.put, List.setIfInBounds_toArray, List.set_cons_zero, List.set_cons_succ, i64_w, i32_w]
    rfl
  refine done_ (by kernel_rfl) ?_

  have hk2 : w4.heap.size ≤ k2 := hk
  have hne : ¬ w.heap.size = k2 := by omega
  have hne2 : ¬ k2 = w.heap.size := by omega
  have hne3 : ¬ w.heap.size + 1 = k2 := by omega
  have hne4 : ¬ k2 = w.heap.size + 1 := by omega
  clear hk hk2
  go_wp2_with fail
  generalize hW : World.setCell _ _ _ = W5
  have a0 : W5.cell? ⟨w.heap.size, 0, none⟩ = some (.int .u8 1) := (by subst hW; simp [go_sem, a0, a1, a2, a3, a4, a5]); have a1 : W5.cell? ⟨w.heap.size, 1, none⟩ = some (.int .i64 1) := (by subst hW; simp [go_sem, a0, a1, a2, a3, a4, a5]); have a2 : W5.cell? ⟨w.heap.size, 2, none⟩ = some (.int .i64 2) := (by subst hW; simp [go_sem, a0, a1, a2, a3, a4, a5]); have a3 : W5.cell? ⟨w.heap.size, 3, none⟩ = some (.int .u8 2) := (by subst hW; simp [go_sem, a0, a1, a2, a3, a4, a5]); have a4 : W5.cell? ⟨w.heap.size, 4, none⟩ = some (.string ⟨#[99]⟩) := (by subst hW; simp [go_sem, a0, a1, a2, a3, a4, a5]); have a5 : W5.cell? ⟨w.heap.size, 5, none⟩ = some (.bool true) := (by subst hW; simp [go_sem, a0, a1, a2, a3, a4, a5])
  have b0 : W5.cell? ⟨w.heap.size + 1, 0, none⟩ = some (.int .u8 2) := (by subst hW; simp [go_sem, b0, b1, b2, b3, b4, b5]); have b1 : W5.cell? ⟨w.heap.size + 1, 1, none⟩ = some (.int .i64 2) := (by subst hW; simp [go_sem, b0, b1, b2, b3, b4, b5]); have b2 : W5.cell? ⟨w.heap.size + 1, 2, none⟩ = some (.int .i64 1) := (by subst hW; simp [go_sem, b0, b1, b2, b3, b4, b5]); have b3 : W5.cell? ⟨w.heap.size + 1, 3, none⟩ = some (.int .u8 0) := (by subst hW; simp [go_sem, b0, b1, b2, b3, b4, b5]); have b4 : W5.cell? ⟨w.heap.size + 1, 4, none⟩ = some (.string ⟨#[99]⟩) := (by subst hW; simp [go_sem, b0, b1, b2, b3, b4, b5]); have b5 : W5.cell? ⟨w.heap.size + 1, 5, none⟩ = some (.bool false) := (by subst hW; simp [go_sem, b0, b1, b2, b3, b4, b5])
  have g0 : W5.cell? ⟨k2, 0, none⟩ = some (.int .i64 4) := (by subst hW; simp [go_sem, hne, hne2, hne3, hne4, g0, g1, g2, g3, g4]); have g1 : W5.cell? ⟨k2, 1, none⟩ = some (.int .u8 2) := (by subst hW; simp [go_sem, hne, hne2, hne3, hne4, g0, g1, g2, g3, g4]); have g2 : W5.cell? ⟨k2, 2, none⟩ = some (.int .u8 1) := (by subst hW; simp [go_sem, hne, hne2, hne3, hne4, g0, g1, g2, g3, g4]); have g3 : W5.cell? ⟨k2, 3, none⟩ = some (.int .i64 2) := (by subst hW; simp [go_sem, hne, hne2, hne3, hne4, g0, g1, g2, g3, g4]); have g4 : W5.cell? ⟨k2, 4, none⟩ = some (.string ⟨#[]⟩) := (by subst hW; simp [go_sem, hne, hne2, hne3, hne4, g0, g1, g2, g3, g4])
  have fa : ∀ o, W5.frozen? ⟨w.heap.size, o, none⟩ = false := by intro o; subst hW; simp [go_sem, fa]
  have fb : ∀ o, W5.frozen? ⟨w.heap.size + 1, o, none⟩ = false := by intro o; subst hW; simp [go_sem, fb]
  have z0 : w.heap.size < W5.heap.size := by subst hW; simp only [World.size_setCell]; exact z2
  have z1 : w.heap.size + 1 < W5.heap.size := by subst hW; simp only [World.size_setCell]; exact z3
  have hgl : k2 < W5.heap.size := by subst hW; simp only [World.size_setCell]; exact hgl
  have hB : Below w.heap.size w W5 := by subst hW; repeat (first | (with_reducible exact Below.refl _ _) | (with_reducible assumption) | (with_reducible refine bw_alloc ?_) | (with_reducible refine bw_drew ?_) | (with_reducible refine bw_drewN ?_) | (with_reducible refine bw_set ?_ (by first | (simp; done) | (dsimp only; omega))) | (with_reducible refine bw_via (by assumption) ?_))
  clear hW
  refine (speaks_any 2 1 0 2 _).mono ?_
  rw [K8.out]
  rintro r w6 ⟨rfl, hb⟩
  have a0 := stay hb z0 a0
  have a1 := stay hb z0 a1
  have a2 := stay hb z0 a2
  have a3 := stay hb z0 a3
  have a4 := stay hb z0 a4
  have a5 := stay hb z0 a5
  have b0 := stay hb z1 b0
  have b1 := stay hb z1 b1
  have b2 := stay hb z1 b2
  have b3 := stay hb z1 b3
  have b4 := stay hb z1 b4
  have b5 := stay hb z1 b5
  have fa : ∀ o, _ = false := fun o => stayf hb z0 (fa o)
  have fb : ∀ o, _ = false := fun o => stayf hb z1 (fb o)
  have g0 := stay hb hgl g0
  have g1 := stay hb hgl g1
  have g2 := stay hb hgl g2
  have g3 := stay hb hgl g3
  have g4 := stay hb hgl g4
  have z0 := Nat.lt_of_lt_of_le z0 hb.size
  have z1 := Nat.lt_of_lt_of_le z1 hb.size
  have hgl := Nat.lt_of_lt_of_le hgl hb.size
  have hB6 : Below w.heap.size w w6 := by repeat (first | (with_reducible exact Below.refl _ _) | (with_reducible assumption) | (with_reducible refine bw_alloc ?_) | (with_reducible refine bw_drew ?_) | (with_reducible refine bw_drewN ?_) | (with_reducible refine bw_set ?_ (by first | (simp; done) | (dsimp only; omega))) | (with_reducible refine bw_via (by assumption) ?_))
  go_wp2_with fail
  refine start_ (n := 12) (S := fun w' => Below w6.heap.size w6 w' ∧ ∀ b o, b < w6.heap.size → w'.cell? ⟨b, o, none⟩ = w6.cell? ⟨b, o, none⟩) (ds := [9]) #[false, false, false, false, false, false, false, false, false, false, false, false] (by kernel_rfl) rfl rfl ⟨(still_drew w6).1, (still_drew w6).2⟩ (fun hHeld => ?_)
  refine pure_ (i := 1) (N := some 112) (v := ?_) (a' := ?_) #[false, true, false, false, false, false, false, false, false, false, false, false] rfl rfl (by kernel_rfl) (fun _ _ _ h => h) (Or.inl ⟨by rfl, ?_⟩) ?_ ?_
  rotate_left
  · intro w'
    go_simp
    with_reducible rfl
  rotate_left
  · simp only [Act.put, List.setIfInBounds_toArray, List.set_cons_zero, List.set_cons_succ, i64_w, i32_w]
    rfl
  refine pure_ (i := 2) (N := some 113) (v := ?_) (a' := ?_) #[false, true, true, false, false, false, false, false, false, false, false, false] rfl rfl (by kernel_rfl) (fun _ _ _ h => h) (Or.inl ⟨by rfl, ?_⟩) ?_ ?_
  rotate_left
  · intro w'
    go_simp
    with_reducible rfl
  rotate_left
  · simp only [Act.put, List.setIfInBounds_toArray, List.set_cons_zero, List.set_cons_succ, i64_w, i32_w]
    rfl
  refine take_ (i := 0) (N := some 111) (v := ?_) (a' := ?_) #[true, true, true, false, false, false, false, false, false, false, false, false] rfl rfl (by kernel_rfl) (fun _ _ _ h => h) (Or.inl ⟨by rfl, ?_⟩) hHeld ?_ ?_
  rotate_left
  · rintro w' ⟨s0, s1⟩
    go_simp
    with_reducible rfl
  rotate_left
  · simp only [Act.put, List.setIfInBounds_toArray, List.set_cons_zero, List.set_cons_succ, i64_w, i32_w]
    rfl
  refine take_ (i := 3) (N := some 114) (v := ?_) (a' := ?_) #[true, true, true, true, false, false, false, false, false, false, false, false] rfl rfl (by kernel_rfl) (fun _ _ _ h => h) (Or.inl ⟨by rfl, ?_⟩) hHeld ?_ ?_
  rotate_left
  · rintro w' ⟨s0, s1⟩
    go_simp
    with_reducible rfl
  rotate_left
  · simp only [Act.put, List.setIfInBounds_toArray, List.set_cons_zero, List.set_cons_succ, i64_w, i32_w]
    rfl
  refine one_ (i := 4) (N := some 115) #[true, true, true, true, true, false, false, false, false, false, false, false] rfl rfl (by kernel_rfl) (by decide) (fun K hK => ?_)
  refine goes_ Try.func10 (by kernel_rfl) rfl #[.agg #[.int .u8 1, .int .i64 1, .int .i64 2, .int .u8 2, .string ⟨#[99]⟩, .bool true], .agg #[.int .i64 4, .int .u8 2, .int .u8 1, .int .i64 2, .string ⟨#[]⟩]] (by rfl) rfl rfl (by simp only [List.map_toArray, List.map_cons, List.map_nil]; rfl) ?_
  refine (G4.out _).mono ?_
  unfold HearAPost
  rw [K6.out]
  rintro r w7 ⟨v, rfl, hb, rfl⟩
  refine ⟨_, rfl, ?_⟩
  have a0 := stay hb z0 a0
  have a1 := stay hb z0 a1
  have a2 := stay hb z0 a2
  have a3 := stay hb z0 a3
  have a4 := stay hb z0 a4
  have a5 := stay hb z0 a5
  have b0 := stay hb z1 b0
  have b1 := stay hb z1 b1
  have b2 := stay hb z1 b2
  have b3 := stay hb z1 b3
  have b4 := stay hb z1 b4
  have b5 := stay hb z1 b5
  have fa : ∀ o, _ = false := fun o => stayf hb z0 (fa o)
  have fb : ∀ o, _ = false := fun o => stayf hb z1 (fb o)
  have z2 : w.heap.size < w7.heap.size := Nat.lt_of_lt_of_le z0 hb.size
  have z3 : w.heap.size + 1 < w7.heap.size := Nat.lt_of_lt_of_le z1 hb.size
  refine hK.out _ _ ⟨(still_keep hHeld hb).1, (still_keep hHeld hb).2⟩ (fun hHeld => ?_)
  clear hK K
  refine norm_ (a' := ?_) ?_ ?_
  rotate_left
  · show Act.put _ (some 115) _ = _
    simp only [Act.put, List.setIfInBounds_toArray, List.set_cons_zero, List.set_cons_succ, i64_w, i32_w]
    rfl
  refine pure_ (i := 5) (N := some 110) (v := ?_) (a' := ?_) #[true, true, true, true, true, true, false, false, false, false, false, false] rfl rfl (by kernel_rfl) (fun _ _ _ h => h) (Or.inl ⟨by rfl, ?_⟩) ?_ ?_
  rotate_left
  · intro w'
    go_simp
    with_reducible rfl
  rotate_left
  · simp only [Act.put, List.setIfInBounds_toArray, List.set_cons_zero, List.set_cons_succ, i64_w, i32_w]
    rfl
  refine pure_ (i := 6) (N := some 116) (v := ?_) (a' := ?_) #[true, true, true, true, true, true, true, false, false, false, false, false] rfl rfl (by kernel_rfl) (fun _ _ _ h => h) (Or.inl ⟨by rfl, ?_⟩) ?_ ?_
  rotate_left
  · intro w'
    go_simp
    with_reducible rfl
  rotate_left
  · simp only [Act.put, List.setIfInBounds_toArray, List.set_cons_zero, List.set_cons_succ, i64_w, i32_w]
    rfl
  refine pure_ (i := 7) (N := some 117) (v := ?_) (a' := ?_) #[true, true, true, true, true, true, true, true, false, false, false, false] rfl rfl (by kernel_rfl) (fun _ _ _ h => h) (Or.inl ⟨by rfl, ?_⟩) ?_ ?_
  rotate_left
  · intro w'
    go_simp
    with_reducible rfl
  rotate_left
  · simp only [Act.put, List.setIfInBounds_toArray, List.set_cons_zero, List.set_cons_succ, i64_w, i32_w]
    rfl
  refine pure_ (i := 8) (N := some 118) (v := ?_) (a' := ?_) #[true, true, true, true, true, true, true, true, true, false, false, false] rfl rfl (by kernel_rfl) (fun _ _ _ h => h) (Or.inl ⟨by rfl, ?_⟩) ?_ ?_
  rotate_left
  · intro w'
    go_simp
    with_reducible rfl
  rotate_left
  · simp only [Act.put, List.setIfInBounds_toArray, List.set_cons_zero, List.set_cons_succ, i64_w, i32_w]
    rfl
  refine last_ (i := 9) (N := none) #[true, true, true, true, true, true, true, true, true, true, false, false] rfl rfl (by kernel_rfl) (by decide) (fun K hK => ?_)
  refine skip_ (w1 := ?_) (by rfl) rfl ?_ ?_
  rotate_left
  · go_simp
    rfl
  refine hK.out _ _ ?_
  clear hK K
  refine pure_ (i := 10) (N := some 5) (v := ?_) (a' := ?_) #[true, true, true, true, true, true, true, true, true, true, true, false] rfl rfl (by kernel_rfl) (fun _ _ _ h => h) (Or.inl ⟨by rfl, ?_⟩) ?_ ?_
  rotate_left
  · intro w'
    go_simp
    with_reducible rfl
  rotate_left
  · simp only [Act.put, List.setIfInBounds_toArray, List.set_cons_zero, List.set_cons_succ, i64_w, i32_w]
    rfl
  refine pure_ (i := 11) (N := some 6) (v := ?_) (a' := ?_) #[true, true, true, true, true, true, true, true, true, true, true, true] rfl rfl (by kernel_rfl) (fun _ _ _ h => h) (Or.inl ⟨by rfl, ?_⟩) ?_ ?_
  rotate_left
  · intro w'
    go_simp
    with_reducible rfl
  rotate_left
  · simp only [Act.put, List.setIfInBounds_toArray, List.set_cons_zero, List.set_cons_succ, i64_w, i32_w]
    rfl
  refine done_ (by kernel_rfl) ?_

  go_wp2_with fail
  generalize hW : World.setCell _ _ _ = W7
  have a0 : W7.cell? ⟨w.heap.size, 0, none⟩ = some (.int .u8 1) := (by subst hW; simp [go_sem, a0, a1, a2, a3, a4, a5]); have a1 : W7.cell? ⟨w.heap.size, 1, none⟩ = some (.int .i64 1) := (by subst hW; simp [go_sem, a0, a1, a2, a3, a4, a5]); have a2 : W7.cell? ⟨w.heap.size, 2, none⟩ = some (.int .i64 2) := (by subst hW; simp [go_sem, a0, a1, a2, a3, a4, a5]); have a3 : W7.cell? ⟨w.heap.size, 3, none⟩ = some (.int .u8 2) := (by subst hW; simp [go_sem, a0, a1, a2, a3, a4, a5]); have a4 : W7.cell? ⟨w.heap.size, 4, none⟩ = some (.string ⟨#[]⟩) := (by subst hW; simp [go_sem, a0, a1, a2, a3, a4, a5]); have a5 : W7.cell? ⟨w.heap.size, 5, none⟩ = some (.bool false) := (by subst hW; simp [go_sem, a0, a1, a2, a3, a4, a5])
  have b0 : W7.cell? ⟨w.heap.size + 1, 0, none⟩ = some (.int .u8 2) := (by subst hW; simp [go_sem, b0, b1, b2, b3, b4, b5]); have b1 : W7.cell? ⟨w.heap.size + 1, 1, none⟩ = some (.int .i64 2) := (by subst hW; simp [go_sem, b0, b1, b2, b3, b4, b5]); have b2 : W7.cell? ⟨w.heap.size + 1, 2, none⟩ = some (.int .i64 1) := (by subst hW; simp [go_sem, b0, b1, b2, b3, b4, b5]); have b3 : W7.cell? ⟨w.heap.size + 1, 3, none⟩ = some (.int .u8 0) := (by subst hW; simp [go_sem, b0, b1, b2, b3, b4, b5]); have b4 : W7.cell? ⟨w.heap.size + 1, 4, none⟩ = some (.string ⟨#[99]⟩) := (by subst hW; simp [go_sem, b0, b1, b2, b3, b4, b5]); have b5 : W7.cell? ⟨w.heap.size + 1, 5, none⟩ = some (.bool false) := (by subst hW; simp [go_sem, b0, b1, b2, b3, b4, b5])
  have fa : ∀ o, W7.frozen? ⟨w.heap.size, o, none⟩ = false := by intro o; subst hW; simp [go_sem, fa]
  have fb : ∀ o, W7.frozen? ⟨w.heap.size + 1, o, none⟩ = false := by intro o; subst hW; simp [go_sem, fb]
  have z0 : w.heap.size < W7.heap.size := by subst hW; simp only [World.size_setCell]; exact z2
  have z1 : w.heap.size + 1 < W7.heap.size := by subst hW; simp only [World.size_setCell]; exact z3
  have hB : Below w.heap.size w W7 := by subst hW; repeat (first | (with_reducible exact Below.refl _ _) | (with_reducible assumption) | (with_reducible refine bw_alloc ?_) | (with_reducible refine bw_drew ?_) | (with_reducible refine bw_drewN ?_) | (with_reducible refine bw_set ?_ (by first | (simp; done) | (dsimp only; omega))) | (with_reducible refine bw_via (by assumption) ?_))
  clear hW
  refine (right_hand ⟨1, 1, 2, 2, ⟨#[]⟩, false⟩ _ (by decide)).mono ?_
  rw [K7.out]
  rintro r w8 ⟨rfl, hb⟩
  go_wp2_with fail
  go_ret
  refine ⟨rfl, ?_⟩
  repeat (first | (with_reducible exact Below.refl _ _) | (with_reducible assumption) | (with_reducible refine bw_alloc ?_) | (with_reducible refine bw_drew ?_) | (with_reducible refine bw_drewN ?_) | (with_reducible refine bw_set ?_ (by first | (simp; done) | (dsimp only; omega))) | (with_reducible refine bw_via (by assumption) ?_))
end Go.Proofs.Ytamlkmnkdcoebaa.HandAlive
