/- What comes twice is answered alike, or not at all, and changes nothing more: for every side and every message the statement's call returns true. -/
import Derived.Test.YtamlkmnkdcoebaaHandTold
import Derived.Test.YtamlkmnkdcoebaaHandTwo
import Derived.Deep.DeepCutAuto
import Derived.LoopTactic
import Derived.Deep.LoopGhost
import Derived.RegionTactic
namespace Go.Proofs.Ytamlkmnkdcoebaa.LHandTwice
open Go.RowKit LeaseSpec Flat Lease HandSpec HandLaws HandTwo Hand Go.Proofs.YtamlkmnkdcoebaaW.PrintLast
set_option linter.unusedSimpArgs false
set_option linter.unusedVariables false

set_option maxHeartbeats 8000000 in
set_option maxRecDepth 100000 in
theorem walk (c0 : List Value) (c1 : List Value) (w : World) (w0 : Fits [.int .u8, .int .i64, .int .i64, .int .u8, .str, .bool] c0) (w1 : Fits [.int .i64, .int .u8, .int .u8, .int .i64, .str] c1) :
    Calls Try.prog 8 #[.agg c0.toArray, .agg c1.toArray] w fun e w' => e = .returned (.bool true) ∧ Below w.heap.size w w' := by
  obtain ⟨me, _, rfl, _, x1⟩ := w0.int
  obtain ⟨e, _, rfl, _, x2⟩ := x1.int
  obtain ⟨s, _, rfl, _, x3⟩ := x2.int
  obtain ⟨t, _, rfl, _, x4⟩ := x3.int
  obtain ⟨c, _, rfl, hc, x5⟩ := x4.str
  obtain ⟨k, _, rfl, x6⟩ := x5.bool
  obtain rfl := x6.done
  obtain ⟨kind, _, rfl, _, y1⟩ := w1.int
  obtain ⟨src, _, rfl, _, y2⟩ := y1.int
  obtain ⟨dst, _, rfl, _, y3⟩ := y2.int
  obtain ⟨ep, _, rfl, _, y4⟩ := y3.int
  obtain ⟨mc, _, rfl, hcm, y5⟩ := y4.str
  obtain rfl := y5.done
  clear w0 x1 x2 x3 x4 x5 x6 w1 y1 y2 y3 y4 y5
  have h1 := hc
  have h2 := hcm
  unfold maxLen at h1 h2
  by_cases hb : 600 < c.size
  · have hs1 : (600 : Int) < (c.size : Int) := by omega
    go_enter Try.func8, Try.ntmps8
    go_wp2_with fail
    refine (HandAlive.alive_any _).mono ?_
    rintro r v1 ⟨rfl, hb1⟩
    obtain ⟨c_hb1, f_hb1, z_hb1⟩ := bcell hb1; have z0_hb1 := z_hb1 (w.heap.size) (by first | omega | (simp only [World.size_alloc, World.size_setCell, World.size_drew, World.heap_drewN] <;> omega)); have z1_hb1 := z_hb1 (w.heap.size + 1) (by first | omega | (simp only [World.size_alloc, World.size_setCell, World.size_drew, World.heap_drewN] <;> omega)); clear z_hb1
    go_wp2_with fail
    go_ret
    refine ⟨by first | rfl | (simp [*]; done), ?_⟩
    repeat (first | (with_reducible exact Below.refl _ _) | (with_reducible assumption) | (with_reducible refine bw_alloc ?_) | (with_reducible refine bw_drew ?_) | (with_reducible refine bw_drewN ?_) | (with_reducible refine bw_set ?_ (by first | (simp; done) | (dsimp only; omega))) | (with_reducible refine bw_via (by assumption) ?_))
  have hs1 : ¬ (600 : Int) < (c.size : Int) := by omega
  by_cases hb2 : 600 < mc.size
  · have hs2 : (600 : Int) < (mc.size : Int) := by omega
    go_enter Try.func8, Try.ntmps8
    go_wp2_with fail
    refine (HandAlive.alive_any _).mono ?_
    rintro r v1 ⟨rfl, hb1⟩
    obtain ⟨c_hb1, f_hb1, z_hb1⟩ := bcell hb1; have z0_hb1 := z_hb1 (w.heap.size) (by first | omega | (simp only [World.size_alloc, World.size_setCell, World.size_drew, World.heap_drewN] <;> omega)); have z1_hb1 := z_hb1 (w.heap.size + 1) (by first | omega | (simp only [World.size_alloc, World.size_setCell, World.size_drew, World.heap_drewN] <;> omega)); clear z_hb1
    go_wp2_with fail
    go_ret
    refine ⟨by first | rfl | (simp [*]; done), ?_⟩
    repeat (first | (with_reducible exact Below.refl _ _) | (with_reducible assumption) | (with_reducible refine bw_alloc ?_) | (with_reducible refine bw_drew ?_) | (with_reducible refine bw_drewN ?_) | (with_reducible refine bw_set ?_ (by first | (simp; done) | (dsimp only; omega))) | (with_reducible refine bw_via (by assumption) ?_))
  have hs2 : ¬ (600 : Int) < (mc.size : Int) := by omega
  clear hb hb2
  cases hr : rightS ⟨me, e, s, t, c, k⟩ with
  | false =>
    go_enter Try.func8, Try.ntmps8
    go_wp2_with fail
    refine (HandAlive.alive_any _).mono ?_
    rintro r v1 ⟨rfl, hb1⟩
    obtain ⟨c_hb1, f_hb1, z_hb1⟩ := bcell hb1; have z0_hb1 := z_hb1 (w.heap.size) (by first | omega | (simp only [World.size_alloc, World.size_setCell, World.size_drew, World.heap_drewN] <;> omega)); have z1_hb1 := z_hb1 (w.heap.size + 1) (by first | omega | (simp only [World.size_alloc, World.size_setCell, World.size_drew, World.heap_drewN] <;> omega)); clear z_hb1
    go_wp2_with fail
    refine (right_hand_ref ⟨me, e, s, t, c, k⟩ _ hc).mono ?_
    rw [hr]
    rintro r v2 ⟨rfl, hb2⟩
    obtain ⟨c_hb2, f_hb2, z_hb2⟩ := bcell hb2; have z0_hb2 := z_hb2 (w.heap.size) (by first | omega | (simp only [World.size_alloc, World.size_setCell, World.size_drew, World.heap_drewN] <;> omega)); have z1_hb2 := z_hb2 (w.heap.size + 1) (by first | omega | (simp only [World.size_alloc, World.size_setCell, World.size_drew, World.heap_drewN] <;> omega)); clear z_hb2
    go_wp2_with fail
    go_ret
    refine ⟨by first | rfl | (simp [*]; done), ?_⟩
    repeat (first | (with_reducible exact Below.refl _ _) | (with_reducible assumption) | (with_reducible refine bw_alloc ?_) | (with_reducible refine bw_drew ?_) | (with_reducible refine bw_drewN ?_) | (with_reducible refine bw_set ?_ (by first | (simp; done) | (dsimp only; omega))) | (with_reducible refine bw_via (by assumption) ?_))
  | true =>
    have HF := two_all ⟨me, e, s, t, c, k⟩ ⟨kind, src, dst, ep, mc⟩ hr
    have hcT := cargo_all ⟨me, e, s, t, c, k⟩ ⟨kind, src, dst, ep, mc⟩ hr
    have HT := Lib.hid (fun W => hear_told ⟨me, e, s, t, c, k⟩ ⟨kind, src, dst, ep, mc⟩ W hc hcm)
    generalize hT : hearA ⟨me, e, s, t, c, k⟩ ⟨kind, src, dst, ep, mc⟩ = T at HT HF hcT
    clear hT
    have hcT : T.1.c.size ≤ maxLen := by unfold maxLen; omega
    have HU := Lib.hid (fun W => hear_told T.1 ⟨kind, src, dst, ep, mc⟩ W hcT hcm)
    generalize hU : hearA T.1 ⟨kind, src, dst, ep, mc⟩ = U at HU HF
    clear hU
    obtain ⟨U1, Uo, Un⟩ := U
    obtain ⟨hU1, HF⟩ := HF
    dsimp only at hU1 HF
    subst hU1
    go_enter Try.func8, Try.ntmps8
    go_wp2_with fail
    refine (HandAlive.alive_any _).mono ?_
    rintro r v0 ⟨rfl, hb0⟩
    obtain ⟨c_hb0, f_hb0, z_hb0⟩ := bcell hb0; have z0_hb0 := z_hb0 (w.heap.size) (by first | omega | (simp only [World.size_alloc, World.size_setCell, World.size_drew, World.heap_drewN] <;> omega)); have z1_hb0 := z_hb0 (w.heap.size + 1) (by first | omega | (simp only [World.size_alloc, World.size_setCell, World.size_drew, World.heap_drewN] <;> omega)); clear z_hb0
    go_wp2_with fail
    refine (right_hand_ref ⟨me, e, s, t, c, k⟩ _ hc).mono ?_
    rw [hr]
    rintro r v1 ⟨rfl, hb1⟩
    obtain ⟨c_hb1, f_hb1, z_hb1⟩ := bcell hb1; have z0_hb1 := z_hb1 (w.heap.size) (by first | omega | (simp only [World.size_alloc, World.size_setCell, World.size_drew, World.heap_drewN] <;> omega)); have z1_hb1 := z_hb1 (w.heap.size + 1) (by first | omega | (simp only [World.size_alloc, World.size_setCell, World.size_drew, World.heap_drewN] <;> omega)); clear z_hb1
    have a0 : v1.cell? ⟨w.heap.size, 0, none⟩ = some (.int .u8 me) := (by simp [go_sem, c_hb1, c_hb0, z0_hb0]); have a1 : v1.cell? ⟨w.heap.size, 1, none⟩ = some (.int .i64 e) := (by simp [go_sem, c_hb1, c_hb0, z0_hb0]); have a2 : v1.cell? ⟨w.heap.size, 2, none⟩ = some (.int .i64 s) := (by simp [go_sem, c_hb1, c_hb0, z0_hb0]); have a3 : v1.cell? ⟨w.heap.size, 3, none⟩ = some (.int .u8 t) := (by simp [go_sem, c_hb1, c_hb0, z0_hb0]); have a4 : v1.cell? ⟨w.heap.size, 4, none⟩ = some (.string c) := (by simp [go_sem, c_hb1, c_hb0, z0_hb0]); have a5 : v1.cell? ⟨w.heap.size, 5, none⟩ = some (.bool k) := (by simp [go_sem, c_hb1, c_hb0, z0_hb0])
    have b0 : v1.cell? ⟨w.heap.size + 1, 0, none⟩ = some (.int .i64 kind) := (by simp [go_sem, c_hb1, c_hb0, z1_hb0]); have b1 : v1.cell? ⟨w.heap.size + 1, 1, none⟩ = some (.int .u8 src) := (by simp [go_sem, c_hb1, c_hb0, z1_hb0]); have b2 : v1.cell? ⟨w.heap.size + 1, 2, none⟩ = some (.int .u8 dst) := (by simp [go_sem, c_hb1, c_hb0, z1_hb0]); have b3 : v1.cell? ⟨w.heap.size + 1, 3, none⟩ = some (.int .i64 ep) := (by simp [go_sem, c_hb1, c_hb0, z1_hb0]); have b4 : v1.cell? ⟨w.heap.size + 1, 4, none⟩ = some (.string mc) := (by simp [go_sem, c_hb1, c_hb0, z1_hb0])
    clear c_hb1 f_hb1 c_hb0 f_hb0
    go_upto_region 5 with (fail)
    refine start_ (n := 12) (S := fun w' => Below v1.heap.size v1 w' ∧ ∀ b o, b < v1.heap.size → w'.cell? ⟨b, o, none⟩ = v1.cell? ⟨b, o, none⟩) (ds := [9]) #[false, false, false, false, false, false, false, false, false, false, false, false] (by kernel_rfl) rfl rfl ⟨(still_drew v1).1, (still_drew v1).2⟩ (fun hHeld => ?_)
    generalize v1.drew = wD at hHeld ⊢
    refine take_ (i := 0) (N := some 30) (v := ?_) (a' := ?_) #[true, false, false, false, false, false, false, false, false, false, false, false] rfl rfl (by kernel_rfl) (fun _ _ _ h => h) (Or.inl ⟨by rfl, ?_⟩) hHeld ?_ ?_
    rotate_left
    · rintro w' ⟨s0, s1⟩
      go_simp
      with_reducible rfl
    rotate_left
    · simp only [Act.put, List.setIfInBounds_toArray, List.set_cons_zero, List.set_cons_succ, i64_w, i32_w]
      rfl
    refine take_ (i := 2) (N := some 32) (v := ?_) (a' := ?_) #[true, false, true, false, false, false, false, false, false, false, false, false] rfl rfl (by kernel_rfl) (fun _ _ _ h => h) (Or.inl ⟨by rfl, ?_⟩) hHeld ?_ ?_
    rotate_left
    · rintro w' ⟨s0, s1⟩
      go_simp
      with_reducible rfl
    rotate_left
    · simp only [Act.put, List.setIfInBounds_toArray, List.set_cons_zero, List.set_cons_succ, i64_w, i32_w]
      rfl
    refine join_ (σ := Value × Nat) 3 #[true, true, true, true, true, true, true, true, true, false, false, false] (fun q => [(31, .agg #[.int .u8 me, .int .i64 e, .int .i64 s, .int .u8 t, .string c, .bool k]), (33, .tuple #[.agg #[.int .u8 T.1.me, .int .i64 T.1.e, .int .i64 T.1.s, .int .u8 T.1.t, .string T.1.c, .bool T.1.k], q.1, .int .i64 T.2.2]), (29, .tuple #[.agg #[.int .u8 T.1.me, .int .i64 T.1.e, .int .i64 T.1.s, .int .u8 T.1.t, .string T.1.c, .bool T.1.k], q.1, .int .i64 T.2.2]), (34, .agg #[.int .u8 T.1.me, .int .i64 T.1.e, .int .i64 T.1.s, .int .u8 T.1.t, .string T.1.c, .bool T.1.k]), (35, q.1), (36, .int .i64 T.2.2), (5, .pointer (some ⟨q.2, 0, none⟩))]) (fun q w' => (Below v1.heap.size v1 w' ∧ ∀ b o, b < v1.heap.size → w'.cell? ⟨b, o, none⟩ = v1.cell? ⟨b, o, none⟩) ∧ Said w' v1.heap.size T.2.1 q.1 ∧ Apart q.1 q.2 ∧ Zero w' v1.heap.size q.2 [.int .u8 0, .int .i64 0, .int .i64 0, .int .u8 0, .string ⟨#[]⟩, .bool false]) ?_ ?_
    rotate_left
    · intro hCont
      refine two_ (i := 1) (j := 8) (Ni := some 31) (Nj := some 5) #[true, true, true, false, false, false, false, false, false, false, false, false] #[true, false, true, false, false, false, false, false, true, false, false, false] rfl rfl rfl rfl (by kernel_rfl) (by decide) (by decide) (fun K hK => ?_) (fun K hK => ?_)
      · skip
        refine goes_ Try.func11 (by kernel_rfl) rfl #[.agg #[.int .u8 me, .int .i64 e, .int .i64 s, .int .u8 t, .string c, .bool k]] (by rfl) rfl rfl (by simp only [List.map_toArray, List.map_cons, List.map_nil]; rfl) ?_
        refine (theirs_any ⟨me, e, s, t, c, k⟩ _).mono ?_
        rintro r w3 ⟨rfl, hb⟩
        refine ⟨_, rfl, ?_⟩
        refine hK.out _ _ ⟨(still_keep hHeld hb).1, (still_keep hHeld hb).2⟩ (fun hHeld => ?_)
        clear hK K
        refine norm_ (a' := ?_) ?_ ?_
        rotate_left
        · show Act.put _ (some 31) _ = _
          simp only [Act.put, List.setIfInBounds_toArray, List.set_cons_zero, List.set_cons_succ, i64_w, i32_w]
          rfl
        refine two_ (i := 3) (j := 8) (Ni := some 33) (Nj := some 5) #[true, true, true, true, false, false, false, false, false, false, false, false] #[true, true, true, false, false, false, false, false, true, false, false, false] rfl rfl rfl rfl (by kernel_rfl) (by decide) (by decide) (fun K hK => ?_) (fun K hK => ?_)
        · skip
          refine goes_ Try.func10 (by kernel_rfl) rfl #[.agg #[.int .u8 me, .int .i64 e, .int .i64 s, .int .u8 t, .string c, .bool k], .agg #[.int .i64 kind, .int .u8 src, .int .u8 dst, .int .i64 ep, .string mc]] (by rfl) rfl rfl (by simp only [List.map_toArray, List.map_cons, List.map_nil]; rfl) ?_
          refine (HT.out _).mono ?_
          rintro r w4 ⟨v, rfl, hb, hsd⟩
          refine ⟨_, rfl, ?_⟩
          have hsd0 := hsd
          have hsd := said_mono hsd hHeld.1.size
          refine hK.out _ _ ⟨(still_keep hHeld hb).1, (still_keep hHeld hb).2⟩ (fun hHeld => ?_)
          clear hK K
          refine norm_ (a' := ?_) ?_ ?_
          rotate_left
          · show Act.put _ (some 33) _ = _
            simp only [Act.put, List.setIfInBounds_toArray, List.set_cons_zero, List.set_cons_succ, i64_w, i32_w]
            rfl
          refine pure_ (i := 4) (N := some 29) (v := ?_) (a' := ?_) #[true, true, true, true, true, false, false, false, false, false, false, false] rfl rfl (by kernel_rfl) (fun _ _ _ h => h) (Or.inl ⟨by rfl, ?_⟩) ?_ ?_
          rotate_left
          · intro w'
            go_simp
            with_reducible rfl
          rotate_left
          · simp only [Act.put, List.setIfInBounds_toArray, List.set_cons_zero, List.set_cons_succ, i64_w, i32_w]
            rfl
          refine pure_ (i := 5) (N := some 34) (v := ?_) (a' := ?_) #[true, true, true, true, true, true, false, false, false, false, false, false] rfl rfl (by kernel_rfl) (fun _ _ _ h => h) (Or.inl ⟨by rfl, ?_⟩) ?_ ?_
          rotate_left
          · intro w'
            go_simp
            with_reducible rfl
          rotate_left
          · simp only [Act.put, List.setIfInBounds_toArray, List.set_cons_zero, List.set_cons_succ, i64_w, i32_w]
            rfl
          refine pure_ (i := 6) (N := some 35) (v := ?_) (a' := ?_) #[true, true, true, true, true, true, true, false, false, false, false, false] rfl rfl (by kernel_rfl) (fun _ _ _ h => h) (Or.inl ⟨by rfl, ?_⟩) ?_ ?_
          rotate_left
          · intro w'
            go_simp
            with_reducible rfl
          rotate_left
          · simp only [Act.put, List.setIfInBounds_toArray, List.set_cons_zero, List.set_cons_succ, i64_w, i32_w]
            rfl
          refine pure_ (i := 7) (N := some 36) (v := ?_) (a' := ?_) #[true, true, true, true, true, true, true, true, false, false, false, false] rfl rfl (by kernel_rfl) (fun _ _ _ h => h) (Or.inl ⟨by rfl, ?_⟩) ?_ ?_
          rotate_left
          · intro w'
            go_simp
            with_reducible rfl
          rotate_left
          · simp only [Act.put, List.setIfInBounds_toArray, List.set_cons_zero, List.set_cons_succ, i64_w, i32_w]
            rfl
          refine one_ (i := 8) (N := some 5) #[true, true, true, true, true, true, true, true, true, false, false, false] rfl rfl (by kernel_rfl) (by decide) (fun K hK => ?_)
          refine value_ (w1 := ?_) (v := ?_) (by rfl) rfl ?_ ?_
          rotate_left 2
          · go_simp
            constructor
            · rfl
            · rfl
          generalize hga : World.alloc _ _ = wA
          have hbA := (alloc_facts hga).1
          have hZ := zero_alloc (B := v1.heap.size) hga hHeld.1.size
          clear hga
          have hap := apart_new hsd
          have hsd := said_below hsd hbA
          refine hK.out _ _ ⟨(still_keep hHeld hbA).1, (still_keep hHeld hbA).2⟩ (fun hHeld => ?_)
          clear hK K
          refine norm_ (a' := ?_) ?_ ?_
          rotate_left
          · show Act.put _ (some 5) _ = _
            simp only [Act.put, List.setIfInBounds_toArray, List.set_cons_zero, List.set_cons_succ, i64_w, i32_w]
            rfl
          exact norm_ (by simp only [putAll, Act.put, List.setIfInBounds_toArray, List.set_cons_zero, List.set_cons_succ]) (hCont (v, (World.heap _).size) _ ⟨hHeld, hsd, hap, hZ⟩)
        · skip
          refine value_ (w1 := ?_) (v := ?_) (by rfl) rfl ?_ ?_
          rotate_left 2
          · go_simp
            constructor
            · rfl
            · rfl
          generalize hga : World.alloc _ _ = wA
          have hbA := (alloc_facts hga).1
          have hZ := zero_alloc (B := v1.heap.size) hga hHeld.1.size
          clear hga
          refine hK.out _ _ ⟨(still_keep hHeld hbA).1, (still_keep hHeld hbA).2⟩ (fun hHeld => ?_)
          clear hK K
          refine norm_ (a' := ?_) ?_ ?_
          rotate_left
          · show Act.put _ (some 5) _ = _
            simp only [Act.put, List.setIfInBounds_toArray, List.set_cons_zero, List.set_cons_succ, i64_w, i32_w]
            rfl
          refine one_ (i := 3) (N := some 33) #[true, true, true, true, false, false, false, false, true, false, false, false] rfl rfl (by kernel_rfl) (by decide) (fun K hK => ?_)
          refine goes_ Try.func10 (by kernel_rfl) rfl #[.agg #[.int .u8 me, .int .i64 e, .int .i64 s, .int .u8 t, .string c, .bool k], .agg #[.int .i64 kind, .int .u8 src, .int .u8 dst, .int .i64 ep, .string mc]] (by rfl) rfl rfl (by simp only [List.map_toArray, List.map_cons, List.map_nil]; rfl) ?_
          refine (HT.out _).mono ?_
          rintro r w4 ⟨v, rfl, hb, hsd⟩
          refine ⟨_, rfl, ?_⟩
          have hsd0 := hsd
          have hsd := said_mono hsd hHeld.1.size
          have hap := apart_old hsd0 hZ.2.1
          have hZ := zero_stay hb hZ
          refine hK.out _ _ ⟨(still_keep hHeld hb).1, (still_keep hHeld hb).2⟩ (fun hHeld => ?_)
          clear hK K
          refine norm_ (a' := ?_) ?_ ?_
          rotate_left
          · show Act.put _ (some 33) _ = _
            simp only [Act.put, List.setIfInBounds_toArray, List.set_cons_zero, List.set_cons_succ, i64_w, i32_w]
            rfl
          refine pure_ (i := 4) (N := some 29) (v := ?_) (a' := ?_) #[true, true, true, true, true, false, false, false, true, false, false, false] rfl rfl (by kernel_rfl) (fun _ _ _ h => h) (Or.inl ⟨by rfl, ?_⟩) ?_ ?_
          rotate_left
          · intro w'
            go_simp
            with_reducible rfl
          rotate_left
          · simp only [Act.put, List.setIfInBounds_toArray, List.set_cons_zero, List.set_cons_succ, i64_w, i32_w]
            rfl
          refine pure_ (i := 5) (N := some 34) (v := ?_) (a' := ?_) #[true, true, true, true, true, true, false, false, true, false, false, false] rfl rfl (by kernel_rfl) (fun _ _ _ h => h) (Or.inl ⟨by rfl, ?_⟩) ?_ ?_
          rotate_left
          · intro w'
            go_simp
            with_reducible rfl
          rotate_left
          · simp only [Act.put, List.setIfInBounds_toArray, List.set_cons_zero, List.set_cons_succ, i64_w, i32_w]
            rfl
          refine pure_ (i := 6) (N := some 35) (v := ?_) (a' := ?_) #[true, true, true, true, true, true, true, false, true, false, false, false] rfl rfl (by kernel_rfl) (fun _ _ _ h => h) (Or.inl ⟨by rfl, ?_⟩) ?_ ?_
          rotate_left
          · intro w'
            go_simp
            with_reducible rfl
          rotate_left
          · simp only [Act.put, List.setIfInBounds_toArray, List.set_cons_zero, List.set_cons_succ, i64_w, i32_w]
            rfl
          refine pure_ (i := 7) (N := some 36) (v := ?_) (a' := ?_) #[true, true, true, true, true, true, true, true, true, false, false, false] rfl rfl (by kernel_rfl) (fun _ _ _ h => h) (Or.inl ⟨by rfl, ?_⟩) ?_ ?_
          rotate_left
          · intro w'
            go_simp
            with_reducible rfl
          rotate_left
          · simp only [Act.put, List.setIfInBounds_toArray, List.set_cons_zero, List.set_cons_succ, i64_w, i32_w]
            rfl
          exact norm_ (by simp only [putAll, Act.put, List.setIfInBounds_toArray, List.set_cons_zero, List.set_cons_succ]) (hCont (v, (World.heap _).size) _ ⟨hHeld, hsd, hap, hZ⟩)
      · skip
        refine value_ (w1 := ?_) (v := ?_) (by rfl) rfl ?_ ?_
        rotate_left 2
        · go_simp
          constructor
          · rfl
          · rfl
        generalize hga : World.alloc _ _ = wA
        have hbA := (alloc_facts hga).1
        have hZ := zero_alloc (B := v1.heap.size) hga hHeld.1.size
        clear hga
        refine hK.out _ _ ⟨(still_keep hHeld hbA).1, (still_keep hHeld hbA).2⟩ (fun hHeld => ?_)
        clear hK K
        refine norm_ (a' := ?_) ?_ ?_
        rotate_left
        · show Act.put _ (some 5) _ = _
          simp only [Act.put, List.setIfInBounds_toArray, List.set_cons_zero, List.set_cons_succ, i64_w, i32_w]
          rfl
        refine one_ (i := 1) (N := some 31) #[true, true, true, false, false, false, false, false, true, false, false, false] rfl rfl (by kernel_rfl) (by decide) (fun K hK => ?_)
        refine goes_ Try.func11 (by kernel_rfl) rfl #[.agg #[.int .u8 me, .int .i64 e, .int .i64 s, .int .u8 t, .string c, .bool k]] (by rfl) rfl rfl (by simp only [List.map_toArray, List.map_cons, List.map_nil]; rfl) ?_
        refine (theirs_any ⟨me, e, s, t, c, k⟩ _).mono ?_
        rintro r w3 ⟨rfl, hb⟩
        refine ⟨_, rfl, ?_⟩
        have hZ := zero_stay hb hZ
        refine hK.out _ _ ⟨(still_keep hHeld hb).1, (still_keep hHeld hb).2⟩ (fun hHeld => ?_)
        clear hK K
        refine norm_ (a' := ?_) ?_ ?_
        rotate_left
        · show Act.put _ (some 31) _ = _
          simp only [Act.put, List.setIfInBounds_toArray, List.set_cons_zero, List.set_cons_succ, i64_w, i32_w]
          rfl
        refine one_ (i := 3) (N := some 33) #[true, true, true, true, false, false, false, false, true, false, false, false] rfl rfl (by kernel_rfl) (by decide) (fun K hK => ?_)
        refine goes_ Try.func10 (by kernel_rfl) rfl #[.agg #[.int .u8 me, .int .i64 e, .int .i64 s, .int .u8 t, .string c, .bool k], .agg #[.int .i64 kind, .int .u8 src, .int .u8 dst, .int .i64 ep, .string mc]] (by rfl) rfl rfl (by simp only [List.map_toArray, List.map_cons, List.map_nil]; rfl) ?_
        refine (HT.out _).mono ?_
        rintro r w4 ⟨v, rfl, hb, hsd⟩
        refine ⟨_, rfl, ?_⟩
        have hsd0 := hsd
        have hsd := said_mono hsd hHeld.1.size
        have hap := apart_old hsd0 hZ.2.1
        have hZ := zero_stay hb hZ
        refine hK.out _ _ ⟨(still_keep hHeld hb).1, (still_keep hHeld hb).2⟩ (fun hHeld => ?_)
        clear hK K
        refine norm_ (a' := ?_) ?_ ?_
        rotate_left
        · show Act.put _ (some 33) _ = _
          simp only [Act.put, List.setIfInBounds_toArray, List.set_cons_zero, List.set_cons_succ, i64_w, i32_w]
          rfl
        refine pure_ (i := 4) (N := some 29) (v := ?_) (a' := ?_) #[true, true, true, true, true, false, false, false, true, false, false, false] rfl rfl (by kernel_rfl) (fun _ _ _ h => h) (Or.inl ⟨by rfl, ?_⟩) ?_ ?_
        rotate_left
        · intro w'
          go_simp
          with_reducible rfl
        rotate_left
        · simp only [Act.put, List.setIfInBounds_toArray, List.set_cons_zero, List.set_cons_succ, i64_w, i32_w]
          rfl
        refine pure_ (i := 5) (N := some 34) (v := ?_) (a' := ?_) #[true, true, true, true, true, true, false, false, true, false, false, false] rfl rfl (by kernel_rfl) (fun _ _ _ h => h) (Or.inl ⟨by rfl, ?_⟩) ?_ ?_
        rotate_left
        · intro w'
          go_simp
          with_reducible rfl
        rotate_left
        · simp only [Act.put, List.setIfInBounds_toArray, List.set_cons_zero, List.set_cons_succ, i64_w, i32_w]
          rfl
        refine pure_ (i := 6) (N := some 35) (v := ?_) (a' := ?_) #[true, true, true, true, true, true, true, false, true, false, false, false] rfl rfl (by kernel_rfl) (fun _ _ _ h => h) (Or.inl ⟨by rfl, ?_⟩) ?_ ?_
        rotate_left
        · intro w'
          go_simp
          with_reducible rfl
        rotate_left
        · simp only [Act.put, List.setIfInBounds_toArray, List.set_cons_zero, List.set_cons_succ, i64_w, i32_w]
          rfl
        refine pure_ (i := 7) (N := some 36) (v := ?_) (a' := ?_) #[true, true, true, true, true, true, true, true, true, false, false, false] rfl rfl (by kernel_rfl) (fun _ _ _ h => h) (Or.inl ⟨by rfl, ?_⟩) ?_ ?_
        rotate_left
        · intro w'
          go_simp
          with_reducible rfl
        rotate_left
        · simp only [Act.put, List.setIfInBounds_toArray, List.set_cons_zero, List.set_cons_succ, i64_w, i32_w]
          rfl
        exact norm_ (by simp only [putAll, Act.put, List.setIfInBounds_toArray, List.set_cons_zero, List.set_cons_succ]) (hCont (v, (World.heap _).size) _ ⟨hHeld, hsd, hap, hZ⟩)
    rintro ⟨v, g⟩ w5 ⟨hHeld, hsd, hap, hg, hgl, hgc, hgf⟩
    refine norm_ (a' := ?_) ?_ ?_
    rotate_left
    · simp only [putAll, Act.put, List.setIfInBounds_toArray, List.set_cons_zero, List.set_cons_succ]
      rfl
    refine last_ (i := 9) (N := none) #[true, true, true, true, true, true, true, true, true, true, false, false] rfl rfl (by kernel_rfl) (by decide) (fun K hK => ?_)
    refine skip_ (w1 := ?_) (by rfl) rfl ?_ ?_
    rotate_left
    · go_simp
      rfl
    refine hK.out _ _ ?_
    clear hK K
    refine pure_ (i := 10) (N := some 6) (v := ?_) (a' := ?_) #[true, true, true, true, true, true, true, true, true, true, true, false] rfl rfl (by kernel_rfl) (fun _ _ _ h => h) (Or.inl ⟨by rfl, ?_⟩) ?_ ?_
    rotate_left
    · intro w'
      go_simp
      with_reducible rfl
    rotate_left
    · simp only [Act.put, List.setIfInBounds_toArray, List.set_cons_zero, List.set_cons_succ, i64_w, i32_w]
      rfl
    refine pure_ (i := 11) (N := some 7) (v := ?_) (a' := ?_) #[true, true, true, true, true, true, true, true, true, true, true, true] rfl rfl (by kernel_rfl) (fun _ _ _ h => h) (Or.inl ⟨by rfl, ?_⟩) ?_ ?_
    rotate_left
    · intro w'
      go_simp
      with_reducible rfl
    rotate_left
    · simp only [Act.put, List.setIfInBounds_toArray, List.set_cons_zero, List.set_cons_succ, i64_w, i32_w]
      rfl
    refine done_ (by kernel_rfl) ?_

    have q0 := hgc 0
    have q1 := hgc 1
    have q2 := hgc 2
    have q3 := hgc 3
    have q4 := hgc 4
    have q5 := hgc 5
    generalize hW : World.setCell _ _ _ = W
    have t0 : W.cell? ⟨g, 0, none⟩ = some (.int .u8 T.1.me) := (by subst hW; simp [go_sem, q0, q1, q2, q3, q4, q5]); have t1 : W.cell? ⟨g, 1, none⟩ = some (.int .i64 T.1.e) := (by subst hW; simp [go_sem, q0, q1, q2, q3, q4, q5]); have t2 : W.cell? ⟨g, 2, none⟩ = some (.int .i64 T.1.s) := (by subst hW; simp [go_sem, q0, q1, q2, q3, q4, q5]); have t3 : W.cell? ⟨g, 3, none⟩ = some (.int .u8 T.1.t) := (by subst hW; simp [go_sem, q0, q1, q2, q3, q4, q5]); have t4 : W.cell? ⟨g, 4, none⟩ = some (.string T.1.c) := (by subst hW; simp [go_sem, q0, q1, q2, q3, q4, q5]); have t5 : W.cell? ⟨g, 5, none⟩ = some (.bool T.1.k) := (by subst hW; simp [go_sem, q0, q1, q2, q3, q4, q5])
    have hB5 : Below v1.heap.size v1 W := by subst hW; have := hHeld.1; repeat (first | (with_reducible exact Below.refl _ _) | (with_reducible assumption) | (with_reducible refine bw_alloc ?_) | (with_reducible refine bw_drew ?_) | (with_reducible refine bw_drewN ?_) | (with_reducible refine bw_set ?_ (by first | (simp; done) | (dsimp only; omega))) | (with_reducible refine bw_via (by assumption) ?_))
    have hsd5 : Said W v1.heap.size T.2.1 v := by subst hW; exact said_set_apart (said_set_apart (said_set_apart (said_set_apart (said_set_apart (said_set_apart hsd hap) hap) hap) hap) hap) hap
    have hgW : g < W.heap.size := by subst hW; simp only [World.size_setCell]; exact hgl
    clear hW hHeld hsd hap hgc hgf q0 q1 q2 q3 q4 q5
    have a0 := stay hB5 z0_hb1 a0
    have a1 := stay hB5 z0_hb1 a1
    have a2 := stay hB5 z0_hb1 a2
    have a3 := stay hB5 z0_hb1 a3
    have a4 := stay hB5 z0_hb1 a4
    have a5 := stay hB5 z0_hb1 a5
    have b0 := stay hB5 z1_hb1 b0
    have b1 := stay hB5 z1_hb1 b1
    have b2 := stay hB5 z1_hb1 b2
    have b3 := stay hB5 z1_hb1 b3
    have b4 := stay hB5 z1_hb1 b4
    have z0 := Nat.lt_of_lt_of_le z0_hb1 hB5.size
    have z1 := Nat.lt_of_lt_of_le z1_hb1 hB5.size
    go_wp2_with fail
    refine (HU.out _).mono ?_
    rintro r w6 ⟨v6, rfl, hb6, hsd6⟩
    dsimp only at hsd6 ⊢
    have t0 := stay hb6 hgW t0
    have t1 := stay hb6 hgW t1
    have t2 := stay hb6 hgW t2
    have t3 := stay hb6 hgW t3
    have t4 := stay hb6 hgW t4
    have t5 := stay hb6 hgW t5
    have hgW := Nat.lt_of_lt_of_le hgW hb6.size
    have hsd5 := said_below hsd5 hb6
    clear HT HU
    rcases HF with ⟨e1, e2, e3⟩ | ⟨e1, e2, e3⟩ | ⟨e1, e2, e3⟩
    · rw [e3] at hsd6
      have hv : v6 = .slice none 0 0 := hsd6
      subst hv
      subst e2
      go_wp2_with fail
      go_ret
      refine ⟨by simp, ?_⟩
      repeat (first | (with_reducible exact Below.refl _ _) | (with_reducible assumption) | (with_reducible refine bw_alloc ?_) | (with_reducible refine bw_drew ?_) | (with_reducible refine bw_drewN ?_) | (with_reducible refine bw_set ?_ (by first | (simp; done) | (dsimp only; omega))) | (with_reducible refine bw_via (by assumption) ?_))
    · rw [e3] at hsd6
      have hv : v6 = .slice none 0 0 := hsd6
      subst hv
      go_wp2_with fail
      go_ret
      refine ⟨by simp, ?_⟩
      repeat (first | (with_reducible exact Below.refl _ _) | (with_reducible assumption) | (with_reducible refine bw_alloc ?_) | (with_reducible refine bw_drew ?_) | (with_reducible refine bw_drewN ?_) | (with_reducible refine bw_set ?_ (by first | (simp; done) | (dsimp only; omega))) | (with_reducible refine bw_via (by assumption) ?_))
    · rw [e3] at hsd6
      cases hTo : T.2.1 with
      | none =>
        rw [hTo] at hsd5 hsd6
        have hv : v = .slice none 0 0 := hsd5
        subst hv
        have hv : v6 = .slice none 0 0 := hsd6
        subst hv
        go_wp2_with fail
        refine wp_loop_rounds 1 ?_
        rw [rounds_succ]
        go_wp2_with fail
        go_ret
        refine ⟨by simp, ?_⟩
        repeat (first | (with_reducible exact Below.refl _ _) | (with_reducible assumption) | (with_reducible refine bw_alloc ?_) | (with_reducible refine bw_drew ?_) | (with_reducible refine bw_drewN ?_) | (with_reducible refine bw_set ?_ (by first | (simp; done) | (dsimp only; omega))) | (with_reducible refine bw_via (by assumption) ?_))
      | some y =>
        rw [hTo] at hsd5 hsd6
        obtain ⟨g1, hv, hBg, hlt, m0, m1, m2, m3, m4⟩ := hsd5
        subst hv
        obtain ⟨g2, hv, hBg2, hlt2, n0, n1, n2, n3, n4⟩ := hsd6
        subst hv
        go_wp2_with fail
        generalize h8 : World.alloc w6 _ = w8
        obtain ⟨hb8, n8, k8⟩ := alloc_facts h8
        clear h8 k8
        have m0 := stay hb8 hlt m0
        have n0 := stay hb8 hlt2 n0
        have m1 := stay hb8 hlt m1
        have n1 := stay hb8 hlt2 n1
        have m2 := stay hb8 hlt m2
        have n2 := stay hb8 hlt2 n2
        have m3 := stay hb8 hlt m3
        have n3 := stay hb8 hlt2 n3
        have m4 := stay hb8 hlt m4
        have n4 := stay hb8 hlt2 n4
        refine wp_loop_rounds 2 ?_
        rw [rounds_succ]
        go_wp2_with fail
        go_quiet (fail)
        go_wp2_with fail
        rw [rounds_succ]
        go_wp2_with fail
        go_ret
        refine ⟨by simp, ?_⟩
        repeat (first | (with_reducible exact Below.refl _ _) | (with_reducible assumption) | (with_reducible refine bw_alloc ?_) | (with_reducible refine bw_drew ?_) | (with_reducible refine bw_drewN ?_) | (with_reducible refine bw_set ?_ (by first | (simp; done) | (dsimp only; omega))) | (with_reducible refine bw_via (by assumption) ?_))
end Go.Proofs.Ytamlkmnkdcoebaa.LHandTwice
