/- What any ballot makes of any side, and what that says for any mobile, is the document's, or refused: for every side, every ballot and every mobile the statement's call returns true. -/
import Derived.Test.YtajnaiofagppeaaDoorAgentAlive
import Derived.Test.YtajnaiofagppeaaDoorRefSpeak
import Derived.Test.YtajnaiofagppeaaDoorZero
namespace Go.Proofs.YtajnaiofagppeaaDoor.LAgentShips
open Go Go.RowKit CodeSpec AgentSpec NoteSpec LeaseSpec HandSpec Flat Ballot Collect Pack Held Ship Speak AgentSmall RefShip Go.Proofs.YtajnaiofagppeaaDoorW.PrintLast
set_option linter.unusedSimpArgs false
set_option linter.unusedVariables false
set_option maxRecDepth 100000
set_option maxHeartbeats 4000000 in
theorem walk (c0 : List Value) (c1 : List Value) (a2 : Int) (w : World) (w0 : Fits [.int .u8, .int .i64, .int .i64, .int .u8, .str, .bool] c0) (w1 : Fits [.int .i64, .int .i64] c1) (w2 : (Lit.int .u8 a2).wf = true) :
    Calls Tryd.prog 4 #[.agg c0.toArray, .agg c1.toArray, .int .u8 a2] w fun e w' => e = .returned (.bool true) ∧ Below w.heap.size w w' := by
  obtain ⟨me, _, rfl, _, x1⟩ := w0.int
  obtain ⟨e, _, rfl, _, x2⟩ := x1.int
  obtain ⟨s, _, rfl, _, x3⟩ := x2.int
  obtain ⟨t, _, rfl, _, x4⟩ := x3.int
  obtain ⟨c, _, rfl, hc, x5⟩ := x4.str
  obtain ⟨k, _, rfl, x6⟩ := x5.bool
  obtain rfl := x6.done
  obtain ⟨tx, _, rfl, _, y1⟩ := w1.int
  obtain ⟨vt, _, rfl, _, y2⟩ := y1.int
  obtain rfl := y2.done
  clear w0 x1 x2 x3 x4 x5 x6 w1 y1 y2 w2
  generalize a2 = mb at *
  by_cases hb : 600 < c.size
  · have hs1 : (600 : Int) < (c.size : Int) := by omega
    go_enter Tryd.func4, Tryd.ntmps4
    go_wp2_with fail
    refine (AgentAlive.alive_any _).mono ?_
    rintro r v1 ⟨rfl, hb1⟩
    obtain ⟨c_hb1, f_hb1, z_hb1⟩ := bcell hb1; have z0_hb1 := z_hb1 (w.heap.size) (by first | omega | (simp only [World.size_alloc, World.size_setCell, World.size_drew, World.heap_drewN] <;> omega)); have z1_hb1 := z_hb1 (w.heap.size + 1) (by first | omega | (simp only [World.size_alloc, World.size_setCell, World.size_drew, World.heap_drewN] <;> omega)); clear z_hb1
    go_wp2_with fail
    go_ret
    refine ⟨rfl, ?_⟩
    repeat (first | (with_reducible exact Below.refl _ _) | (with_reducible assumption) | (with_reducible refine bw_alloc ?_) | (with_reducible refine bw_drew ?_) | (with_reducible refine bw_drewN ?_) | (with_reducible refine bw_set ?_ (by first | (simp; done) | (dsimp only; omega))) | (with_reducible refine bw_via (by assumption) ?_))
  have hs1 : ¬ (600 : Int) < (c.size : Int) := by omega
  have hc2 : c.size ≤ 2000 := by omega
  have HSD := Lib.hid (fun W => side_any ⟨me, e, s, t, c, k⟩ W)
  have H1 := Lib.hid (fun W => ship_any ⟨me, e, s, t, c, k⟩ ⟨tx, vt⟩ hc W)
  have H2 := Lib.hid (fun W => rship_any ⟨me, e, s, t, c, k⟩ ⟨tx, vt⟩ hc2 W)
  have H3 := Lib.hid (fun W => speak_any ⟨me, e, s, t, c, k⟩ mb hc W)
  have H4 := Lib.hid (fun W => rspeak_any ⟨me, e, s, t, c, k⟩ mb hc2 W)
  have hql : (speakA ⟨me, e, s, t, c, k⟩ mb).1.length ≤ 50 := by
    unfold speakA
    split
    · simp
    · split
      · simp
      · split
        · simp
        · rw [List.length_map]; exact held_len _
  generalize shipA ⟨me, e, s, t, c, k⟩ ⟨tx, vt⟩ = T at *
  generalize speakA ⟨me, e, s, t, c, k⟩ mb = Q at *
  obtain ⟨⟨m1, e1, s1, t1, c1, k1⟩, er⟩ := T
  obtain ⟨ql, qe⟩ := Q
  have HOU := Lib.hid (fun W => ours_any ⟨m1, e1, s1, t1, c1, k1⟩ W)
  dsimp only at H1 H2 H3 H4 HSD HOU hql
  go_enter Tryd.func4, Tryd.ntmps4
  go_wp2_with fail
  refine (AgentAlive.alive_any _).mono ?_; rintro r v1 ⟨rfl, hb1⟩; obtain ⟨c_hb1, f_hb1, z_hb1⟩ := bcell hb1; have z0_hb1 := z_hb1 (w.heap.size) (by first | omega | (simp only [World.size_alloc, World.size_setCell, World.size_drew, World.heap_drewN] <;> omega)); have z1_hb1 := z_hb1 (w.heap.size + 1) (by first | omega | (simp only [World.size_alloc, World.size_setCell, World.size_drew, World.heap_drewN] <;> omega)); clear z_hb1; have a0 : v1.cell? ⟨w.heap.size, 0, none⟩ = some (.int .u8 me) := (by simp [go_sem, c_hb1]); have a1 : v1.cell? ⟨w.heap.size, 1, none⟩ = some (.int .i64 e) := (by simp [go_sem, c_hb1]); have a2 : v1.cell? ⟨w.heap.size, 2, none⟩ = some (.int .i64 s) := (by simp [go_sem, c_hb1]); have a3 : v1.cell? ⟨w.heap.size, 3, none⟩ = some (.int .u8 t) := (by simp [go_sem, c_hb1]); have a4 : v1.cell? ⟨w.heap.size, 4, none⟩ = some (.string c) := (by simp [go_sem, c_hb1]); have a5 : v1.cell? ⟨w.heap.size, 5, none⟩ = some (.bool k) := (by simp [go_sem, c_hb1]); have b0 : v1.cell? ⟨w.heap.size + 1, 0, none⟩ = some (.int .i64 tx) := (by simp [go_sem, c_hb1]); have b1 : v1.cell? ⟨w.heap.size + 1, 1, none⟩ = some (.int .i64 vt) := (by simp [go_sem, c_hb1]); have SA : Six v1 w.heap.size ⟨me, e, s, t, c, k⟩ := ⟨⟨a0, a1, a2, a3, a4, a5⟩, fun o => by simp [go_sem, f_hb1], z0_hb1⟩; clear c_hb1 f_hb1; have hB1 : Below w.heap.size w v1 := (by repeat (first | (with_reducible exact Below.refl _ _) | (with_reducible assumption) | (with_reducible refine bw_alloc ?_) | (with_reducible refine bw_drew ?_) | (with_reducible refine bw_drewN ?_) | (with_reducible refine bw_set ?_ (by first | (simp; done) | (dsimp only; omega))) | (with_reducible refine bw_via (by assumption) ?_))); clear hb1; go_upto_region 5 with (fail)
  refine start_ (n := 10) (S := fun w' => Below v1.heap.size v1 w' ∧ ∀ b o, b < v1.heap.size → w'.cell? ⟨b, o, none⟩ = v1.cell? ⟨b, o, none⟩) (ds := [8]) #[false, false, false, false, false, false, false, false, false, false] (by kernel_rfl) rfl rfl ⟨(still_drew v1).1, (still_drew v1).2⟩ (fun hHeld => ?_)
  generalize v1.drew = wD at hHeld ⊢
  refine take_ (i := 0) (N := some 22) (v := ?_) (a' := ?_) #[true, false, false, false, false, false, false, false, false, false] rfl rfl (by kernel_rfl) (fun _ _ _ h => h) (Or.inl ⟨by rfl, ?_⟩) hHeld ?_ ?_
  rotate_left
  · rintro w' ⟨s0, s1⟩
    go_simp
    with_reducible rfl
  rotate_left
  · simp only [Act.put, List.setIfInBounds_toArray, List.set_cons_zero, List.set_cons_succ, i64_w, i32_w]
    rfl
  refine take_ (i := 2) (N := some 24) (v := ?_) (a' := ?_) #[true, false, true, false, false, false, false, false, false, false] rfl rfl (by kernel_rfl) (fun _ _ _ h => h) (Or.inl ⟨by rfl, ?_⟩) hHeld ?_ ?_
  rotate_left
  · rintro w' ⟨s0, s1⟩
    go_simp
    with_reducible rfl
  rotate_left
  · simp only [Act.put, List.setIfInBounds_toArray, List.set_cons_zero, List.set_cons_succ, i64_w, i32_w]
    rfl
  refine join_ (σ := Nat) 2 #[true, true, true, true, true, true, true, true, false, false] (fun q => [(23, .agg #[.int .u8 me, .int .i64 e, .int .i64 s, .int .u8 t, .string c, .bool k]), (25, .tuple #[.agg #[.int .u8 m1, .int .i64 e1, .int .i64 s1, .int .u8 t1, .string c1, .bool k1], .int .i64 er]), (21, .tuple #[.agg #[.int .u8 m1, .int .i64 e1, .int .i64 s1, .int .u8 t1, .string c1, .bool k1], .int .i64 er]), (26, .agg #[.int .u8 m1, .int .i64 e1, .int .i64 s1, .int .u8 t1, .string c1, .bool k1]), (27, .int .i64 er), (7, .pointer (some ⟨q, 0, none⟩))]) (fun q w' => (Below v1.heap.size v1 w' ∧ ∀ b o, b < v1.heap.size → w'.cell? ⟨b, o, none⟩ = v1.cell? ⟨b, o, none⟩) ∧ Zero w' v1.heap.size q [.int .u8 0, .int .i64 0, .int .i64 0, .int .u8 0, .string ⟨#[]⟩, .bool false]) ?_ ?_
  rotate_left
  · intro hCont
    refine two_ (i := 1) (j := 7) (Ni := some 23) (Nj := some 7) #[true, true, true, false, false, false, false, false, false, false] #[true, false, true, false, false, false, false, true, false, false] rfl rfl rfl rfl (by kernel_rfl) (by decide) (by decide) (fun K hK => ?_) (fun K hK => ?_)
    · skip
      refine goes_ Tryd.func17 (by kernel_rfl) rfl #[.agg #[.int .u8 me, .int .i64 e, .int .i64 s, .int .u8 t, .string c, .bool k]] (by rfl) rfl rfl (by simp only [List.map_toArray, List.map_cons, List.map_nil]; rfl) ?_
      refine (HSD.out _).mono ?_
      rintro r w3 ⟨rfl, hb⟩
      refine ⟨_, rfl, ?_⟩
      refine hK.out _ _ ⟨(still_keep hHeld hb).1, (still_keep hHeld hb).2⟩ (fun hHeld => ?_)
      clear hK K
      refine norm_ (a' := ?_) ?_ ?_
      rotate_left
      · show Act.put _ (some 23) _ = _
        simp only [Act.put, List.setIfInBounds_toArray, List.set_cons_zero, List.set_cons_succ, i64_w, i32_w]
        rfl
      refine two_ (i := 3) (j := 7) (Ni := some 25) (Nj := some 7) #[true, true, true, true, false, false, false, false, false, false] #[true, true, true, false, false, false, false, true, false, false] rfl rfl rfl rfl (by kernel_rfl) (by decide) (by decide) (fun K hK => ?_) (fun K hK => ?_)
      · skip
        refine goes_ Tryd.func16 (by kernel_rfl) rfl #[.agg #[.int .u8 me, .int .i64 e, .int .i64 s, .int .u8 t, .string c, .bool k], .agg #[.int .i64 tx, .int .i64 vt]] (by rfl) rfl rfl (by simp only [List.map_toArray, List.map_cons, List.map_nil]; rfl) ?_
        refine (H1.out _).mono ?_
        rintro r w4 ⟨rfl, hb⟩
        refine ⟨_, rfl, ?_⟩
        refine hK.out _ _ ⟨(still_keep hHeld hb).1, (still_keep hHeld hb).2⟩ (fun hHeld => ?_)
        clear hK K
        refine norm_ (a' := ?_) ?_ ?_
        rotate_left
        · show Act.put _ (some 25) _ = _
          simp only [Act.put, List.setIfInBounds_toArray, List.set_cons_zero, List.set_cons_succ, i64_w, i32_w]
          rfl
        refine pure_ (i := 4) (N := some 21) (v := ?_) (a' := ?_) #[true, true, true, true, true, false, false, false, false, false] rfl rfl (by kernel_rfl) (fun _ _ _ h => h) (Or.inl ⟨by rfl, ?_⟩) ?_ ?_
        rotate_left
        · intro w'
          go_simp
          with_reducible rfl
        rotate_left
        · simp only [Act.put, List.setIfInBounds_toArray, List.set_cons_zero, List.set_cons_succ, i64_w, i32_w]
          rfl
        refine pure_ (i := 5) (N := some 26) (v := ?_) (a' := ?_) #[true, true, true, true, true, true, false, false, false, false] rfl rfl (by kernel_rfl) (fun _ _ _ h => h) (Or.inl ⟨by rfl, ?_⟩) ?_ ?_
        rotate_left
        · intro w'
          go_simp
          with_reducible rfl
        rotate_left
        · simp only [Act.put, List.setIfInBounds_toArray, List.set_cons_zero, List.set_cons_succ, i64_w, i32_w]
          rfl
        refine pure_ (i := 6) (N := some 27) (v := ?_) (a' := ?_) #[true, true, true, true, true, true, true, false, false, false] rfl rfl (by kernel_rfl) (fun _ _ _ h => h) (Or.inl ⟨by rfl, ?_⟩) ?_ ?_
        rotate_left
        · intro w'
          go_simp
          with_reducible rfl
        rotate_left
        · simp only [Act.put, List.setIfInBounds_toArray, List.set_cons_zero, List.set_cons_succ, i64_w, i32_w]
          rfl
        refine one_ (i := 7) (N := some 7) #[true, true, true, true, true, true, true, true, false, false] rfl rfl (by kernel_rfl) (by decide) (fun K hK => ?_)
        refine value_ (w1 := ?_) (v := ?_) (by rfl) rfl ?_ ?_
        rotate_left 2
        · go_simp
          constructor
          · rfl
          · rfl
        generalize hga : World.alloc _ _ = wA
        have hbA := (alloc_facts hga).1
        have hZ := zero_alloc (B := v1.heap.size) hga hHeld.1.size
        clear hga
        refine hK.out _ _ ⟨(still_keep hHeld hbA).1, (still_keep hHeld hbA).2⟩ (fun hHeld => ?_)
        clear hK K
        refine norm_ (a' := ?_) ?_ ?_
        rotate_left
        · show Act.put _ (some 7) _ = _
          simp only [Act.put, List.setIfInBounds_toArray, List.set_cons_zero, List.set_cons_succ, i64_w, i32_w]
          rfl
        exact norm_ (by simp only [putAll, Act.put, List.setIfInBounds_toArray, List.set_cons_zero, List.set_cons_succ]) (hCont (World.heap _).size _ ⟨hHeld, hZ⟩)
      · skip
        refine value_ (w1 := ?_) (v := ?_) (by rfl) rfl ?_ ?_
        rotate_left 2
        · go_simp
          constructor
          · rfl
          · rfl
        generalize hga : World.alloc _ _ = wA
        have hbA := (alloc_facts hga).1
        have hZ := zero_alloc (B := v1.heap.size) hga hHeld.1.size
        clear hga
        refine hK.out _ _ ⟨(still_keep hHeld hbA).1, (still_keep hHeld hbA).2⟩ (fun hHeld => ?_)
        clear hK K
        refine norm_ (a' := ?_) ?_ ?_
        rotate_left
        · show Act.put _ (some 7) _ = _
          simp only [Act.put, List.setIfInBounds_toArray, List.set_cons_zero, List.set_cons_succ, i64_w, i32_w]
          rfl
        refine one_ (i := 3) (N := some 25) #[true, true, true, true, false, false, false, true, false, false] rfl rfl (by kernel_rfl) (by decide) (fun K hK => ?_)
        refine goes_ Tryd.func16 (by kernel_rfl) rfl #[.agg #[.int .u8 me, .int .i64 e, .int .i64 s, .int .u8 t, .string c, .bool k], .agg #[.int .i64 tx, .int .i64 vt]] (by rfl) rfl rfl (by simp only [List.map_toArray, List.map_cons, List.map_nil]; rfl) ?_
        refine (H1.out _).mono ?_
        rintro r w4 ⟨rfl, hb⟩
        refine ⟨_, rfl, ?_⟩
        have hZ := zero_stay hb hZ
        refine hK.out _ _ ⟨(still_keep hHeld hb).1, (still_keep hHeld hb).2⟩ (fun hHeld => ?_)
        clear hK K
        refine norm_ (a' := ?_) ?_ ?_
        rotate_left
        · show Act.put _ (some 25) _ = _
          simp only [Act.put, List.setIfInBounds_toArray, List.set_cons_zero, List.set_cons_succ, i64_w, i32_w]
          rfl
        refine pure_ (i := 4) (N := some 21) (v := ?_) (a' := ?_) #[true, true, true, true, true, false, false, true, false, false] rfl rfl (by kernel_rfl) (fun _ _ _ h => h) (Or.inl ⟨by rfl, ?_⟩) ?_ ?_
        rotate_left
        · intro w'
          go_simp
          with_reducible rfl
        rotate_left
        · simp only [Act.put, List.setIfInBounds_toArray, List.set_cons_zero, List.set_cons_succ, i64_w, i32_w]
          rfl
        refine pure_ (i := 5) (N := some 26) (v := ?_) (a' := ?_) #[true, true, true, true, true, true, false, true, false, false] rfl rfl (by kernel_rfl) (fun _ _ _ h => h) (Or.inl ⟨by rfl, ?_⟩) ?_ ?_
        rotate_left
        · intro w'
          go_simp
          with_reducible rfl
        rotate_left
        · simp only [Act.put, List.setIfInBounds_toArray, List.set_cons_zero, List.set_cons_succ, i64_w, i32_w]
          rfl
        refine pure_ (i := 6) (N := some 27) (v := ?_) (a' := ?_) #[true, true, true, true, true, true, true, true, false, false] rfl rfl (by kernel_rfl) (fun _ _ _ h => h) (Or.inl ⟨by rfl, ?_⟩) ?_ ?_
        rotate_left
        · intro w'
          go_simp
          with_reducible rfl
        rotate_left
        · simp only [Act.put, List.setIfInBounds_toArray, List.set_cons_zero, List.set_cons_succ, i64_w, i32_w]
          rfl
        exact norm_ (by simp only [putAll, Act.put, List.setIfInBounds_toArray, List.set_cons_zero, List.set_cons_succ]) (hCont (World.heap _).size _ ⟨hHeld, hZ⟩)
    · skip
      refine value_ (w1 := ?_) (v := ?_) (by rfl) rfl ?_ ?_
      rotate_left 2
      · go_simp
        constructor
        · rfl
        · rfl
      generalize hga : World.alloc _ _ = wA
      have hbA := (alloc_facts hga).1
      have hZ := zero_alloc (B := v1.heap.size) hga hHeld.1.size
      clear hga
      refine hK.out _ _ ⟨(still_keep hHeld hbA).1, (still_keep hHeld hbA).2⟩ (fun hHeld => ?_)
      clear hK K
      refine norm_ (a' := ?_) ?_ ?_
      rotate_left
      · show Act.put _ (some 7) _ = _
        simp only [Act.put, List.setIfInBounds_toArray, List.set_cons_zero, List.set_cons_succ, i64_w, i32_w]
        rfl
      refine one_ (i := 1) (N := some 23) #[true, true, true, false, false, false, false, true, false, false] rfl rfl (by kernel_rfl) (by decide) (fun K hK => ?_)
      refine goes_ Tryd.func17 (by kernel_rfl) rfl #[.agg #[.int .u8 me, .int .i64 e, .int .i64 s, .int .u8 t, .string c, .bool k]] (by rfl) rfl rfl (by simp only [List.map_toArray, List.map_cons, List.map_nil]; rfl) ?_
      refine (HSD.out _).mono ?_
      rintro r w3 ⟨rfl, hb⟩
      refine ⟨_, rfl, ?_⟩
      have hZ := zero_stay hb hZ
      refine hK.out _ _ ⟨(still_keep hHeld hb).1, (still_keep hHeld hb).2⟩ (fun hHeld => ?_)
      clear hK K
      refine norm_ (a' := ?_) ?_ ?_
      rotate_left
      · show Act.put _ (some 23) _ = _
        simp only [Act.put, List.setIfInBounds_toArray, List.set_cons_zero, List.set_cons_succ, i64_w, i32_w]
        rfl
      refine one_ (i := 3) (N := some 25) #[true, true, true, true, false, false, false, true, false, false] rfl rfl (by kernel_rfl) (by decide) (fun K hK => ?_)
      refine goes_ Tryd.func16 (by kernel_rfl) rfl #[.agg #[.int .u8 me, .int .i64 e, .int .i64 s, .int .u8 t, .string c, .bool k], .agg #[.int .i64 tx, .int .i64 vt]] (by rfl) rfl rfl (by simp only [List.map_toArray, List.map_cons, List.map_nil]; rfl) ?_
      refine (H1.out _).mono ?_
      rintro r w4 ⟨rfl, hb⟩
      refine ⟨_, rfl, ?_⟩
      have hZ := zero_stay hb hZ
      refine hK.out _ _ ⟨(still_keep hHeld hb).1, (still_keep hHeld hb).2⟩ (fun hHeld => ?_)
      clear hK K
      refine norm_ (a' := ?_) ?_ ?_
      rotate_left
      · show Act.put _ (some 25) _ = _
        simp only [Act.put, List.setIfInBounds_toArray, List.set_cons_zero, List.set_cons_succ, i64_w, i32_w]
        rfl
      refine pure_ (i := 4) (N := some 21) (v := ?_) (a' := ?_) #[true, true, true, true, true, false, false, true, false, false] rfl rfl (by kernel_rfl) (fun _ _ _ h => h) (Or.inl ⟨by rfl, ?_⟩) ?_ ?_
      rotate_left
      · intro w'
        go_simp
        with_reducible rfl
      rotate_left
      · simp only [Act.put, List.setIfInBounds_toArray, List.set_cons_zero, List.set_cons_succ, i64_w, i32_w]
        rfl
      refine pure_ (i := 5) (N := some 26) (v := ?_) (a' := ?_) #[true, true, true, true, true, true, false, true, false, false] rfl rfl (by kernel_rfl) (fun _ _ _ h => h) (Or.inl ⟨by rfl, ?_⟩) ?_ ?_
      rotate_left
      · intro w'
        go_simp
        with_reducible rfl
      rotate_left
      · simp only [Act.put, List.setIfInBounds_toArray, List.set_cons_zero, List.set_cons_succ, i64_w, i32_w]
        rfl
      refine pure_ (i := 6) (N := some 27) (v := ?_) (a' := ?_) #[true, true, true, true, true, true, true, true, false, false] rfl rfl (by kernel_rfl) (fun _ _ _ h => h) (Or.inl ⟨by rfl, ?_⟩) ?_ ?_
      rotate_left
      · intro w'
        go_simp
        with_reducible rfl
      rotate_left
      · simp only [Act.put, List.setIfInBounds_toArray, List.set_cons_zero, List.set_cons_succ, i64_w, i32_w]
        rfl
      exact norm_ (by simp only [putAll, Act.put, List.setIfInBounds_toArray, List.set_cons_zero, List.set_cons_succ]) (hCont (World.heap _).size _ ⟨hHeld, hZ⟩)
  rintro g w5 ⟨hHeld, hg, hgl, hgc, hgf⟩
  refine norm_ (a' := ?_) ?_ ?_
  rotate_left
  · simp only [putAll, Act.put, List.setIfInBounds_toArray, List.set_cons_zero, List.set_cons_succ]
    rfl
  refine last_ (i := 8) (N := none) #[true, true, true, true, true, true, true, true, true, false] rfl rfl (by kernel_rfl) (by decide) (fun K hK => ?_)
  refine skip_ (w1 := ?_) (by rfl) rfl ?_ ?_
  rotate_left
  · go_simp
    rfl
  refine hK.out _ _ ?_
  clear hK K
  refine pure_ (i := 9) (N := some 8) (v := ?_) (a' := ?_) #[true, true, true, true, true, true, true, true, true, true] rfl rfl (by kernel_rfl) (fun _ _ _ h => h) (Or.inl ⟨by rfl, ?_⟩) ?_ ?_
  rotate_left
  · intro w'
    go_simp
    with_reducible rfl
  rotate_left
  · simp only [Act.put, List.setIfInBounds_toArray, List.set_cons_zero, List.set_cons_succ, i64_w, i32_w]
    rfl
  refine done_ (by kernel_rfl) ?_

  have S0 : Six w5 g ⟨0, 0, 0, 0, ⟨#[]⟩, false⟩ := ⟨⟨hgc 0, hgc 1, hgc 2, hgc 3, hgc 4, hgc 5⟩, hgf, hgl⟩
  have SA5 := SA.under hHeld.1 z0_hb1
  have b0 := (hHeld.1.cell (p := ⟨w.heap.size + 1, 0, none⟩) z1_hb1).trans b0
  have b1 := (hHeld.1.cell (p := ⟨w.heap.size + 1, 1, none⟩) z1_hb1).trans b1
  have hB5 := hB1.trans (hHeld.1.mono hB1.size)
  have hgw : w.heap.size + 1 < g := by omega
  obtain ⟨q0, q1, q2, q3, q4, q5⟩ := S0.1
  dsimp only at q0 q1 q2 q3 q4 q5
  have HS0 := Lib.hid S0
  clear S0 hgc hHeld SA a0 a1 a2 a3 a4 a5 hg hB1
  generalize hW : World.setCell _ _ _ = W
  obtain ⟨S1, hBW, hzW, hoW⟩ := six_set (y := ⟨m1, e1, s1, t1, c1, k1⟩) HS0.out hW
  have SA6 := SA5.under hBW (by omega)
  have b0 := (hBW.cell (p := ⟨w.heap.size + 1, 0, none⟩) hgw).trans b0
  have b1 := (hBW.cell (p := ⟨w.heap.size + 1, 1, none⟩) hgw).trans b1
  have zb : w.heap.size + 1 < W.heap.size := by omega
  have hB6 := hB5.trans (hBW.mono (by omega))
  clear hW HS0 SA5 hB5 hBW hzW hoW q0 q1 q2 q3 q4 q5 hgf hgl z0_hb1 z1_hb1
  have HSA := Lib.hid SA6
  have HS1 := Lib.hid S1
  obtain ⟨⟨a0, a1, a2, a3, a4, a5⟩, _, za⟩ := SA6
  dsimp only at a0 a1 a2 a3 a4 a5
  go_wp2_with fail
  refine (H2.out _).mono ?_
  rintro r w7 ⟨rfl, hb7⟩
  have S7 := HS1.out.below hb7
  have SA7 := HSA.out.below hb7
  have hB7 := hB6.trans (hb7.mono hB6.size)
  clear HS1 HSA hB6 hb7 a0 a1 a2 a3 a4 a5 za b0 b1 zb S1
  have HSA := Lib.hid SA7
  have HS1 := Lib.hid S7
  obtain ⟨⟨a0, a1, a2, a3, a4, a5⟩, _, za⟩ := SA7
  dsimp only at a0 a1 a2 a3 a4 a5
  go_upto_region 7 with fail
  generalize hW8 : World.alloc w7 _ = W8
  have SB := six_new (x := ⟨m1, e1, s1, t1, c1, k1⟩) hW8
  obtain ⟨hb8, _, _⟩ := alloc_facts hW8
  have S8 := HS1.out.below hb8
  have SA8 := HSA.out.below hb8
  have hB8 := hB7.trans (hb8.mono hB7.size)
  generalize w7.heap.size = g7 at *
  clear HS1 HSA hB7 hb8 a0 a1 a2 a3 a4 a5 za hW8 S7
  have HSA := Lib.hid SA8
  obtain ⟨⟨a0, a1, a2, a3, a4, a5⟩, _, za⟩ := SA8
  dsimp only at a0 a1 a2 a3 a4 a5
  go_wp2_with fail
  refine (HSD.out _).mono ?_
  rintro r w9 ⟨rfl, hb9⟩
  have S9 := S8.below hb9
  have SA9 := HSA.out.below hb9
  have SB9 := SB.below hb9
  have hB9 := hB8.trans (hb9.mono hB8.size)
  clear S8 HSA SB hB8 hb9 a0 a1 a2 a3 a4 a5 za
  go_wp2_with fail
  refine (H3.out _).mono ?_
  rintro r wA ⟨va, rfl, hoA, hbA⟩
  have SX := S9.below hbA
  have SAX := SA9.below hbA
  have SBX := SB9.below hbA
  have hBX := hB9.trans (hbA.mono hB9.size)
  have hna := own_not hoA
  clear S9 SA9 SB9 hB9 hbA hoA
  have HSA := Lib.hid SAX
  obtain ⟨⟨a0, a1, a2, a3, a4, a5⟩, _, za⟩ := SAX
  dsimp only at a0 a1 a2 a3 a4 a5 hna ⊢
  go_wp2_with fail
  refine (H4.out _).mono ?_
  rintro r wB ⟨vb, rfl, hoB, hbB⟩
  have SY := SX.below hbB
  have SBY := SBX.below hbB
  have hBY := hBX.trans (hbB.mono hBX.size)
  have hna := hna.below hbB
  have hnb := own_notT hoB
  clear SX HSA SBX hBX hbB hoB a0 a1 a2 a3 a4 a5 za
  dsimp only at hnb ⊢
  have HNO := Lib.hid (fun (W : World) (hb : Below wB.heap.size wB W) => notes_any va vb ql (by omega) W (hna.below hb) (hnb.below hb))
  clear hna hnb
  obtain ⟨⟨q0, q1, q2, q3, q4, q5⟩, _, zq⟩ := SY
  obtain ⟨⟨p0, p1, p2, p3, p4, p5⟩, _, zp⟩ := SBY
  dsimp only at q0 q1 q2 q3 q4 q5 p0 p1 p2 p3 p4 p5
  go_upto_region 9 with fail
  refine start_ (n := 20) (S := fun w' => Below wB.heap.size wB w' ∧ ∀ b o, b < wB.heap.size → w'.cell? ⟨b, o, none⟩ = wB.cell? ⟨b, o, none⟩) (ds := []) #[false, false, false, false, false, false, false, false, false, false, false, false, false, false, false, false, false, false, false, false] (by kernel_rfl) rfl rfl ⟨(still_drew wB).1, (still_drew wB).2⟩ (fun hHeld => ?_)
  refine take_ (i := 0) (N := some 47) (v := ?_) (a' := ?_) #[true, false, false, false, false, false, false, false, false, false, false, false, false, false, false, false, false, false, false, false] rfl rfl (by kernel_rfl) (fun _ _ _ h => h) (Or.inl ⟨by rfl, ?_⟩) hHeld ?_ ?_
  rotate_left
  · rintro w' ⟨s0, s1⟩
    go_simp
    with_reducible rfl
  rotate_left
  · simp only [Act.put, List.setIfInBounds_toArray, List.set_cons_zero, List.set_cons_succ, i64_w, i32_w]
    rfl
  refine take_ (i := 2) (N := some 49) (v := ?_) (a' := ?_) #[true, false, true, false, false, false, false, false, false, false, false, false, false, false, false, false, false, false, false, false] rfl rfl (by kernel_rfl) (fun _ _ _ h => h) (Or.inl ⟨by rfl, ?_⟩) hHeld ?_ ?_
  rotate_left
  · rintro w' ⟨s0, s1⟩
    go_simp
    with_reducible rfl
  rotate_left
  · simp only [Act.put, List.setIfInBounds_toArray, List.set_cons_zero, List.set_cons_succ, i64_w, i32_w]
    rfl
  refine one_ (i := 1) (N := some 48) #[true, true, true, false, false, false, false, false, false, false, false, false, false, false, false, false, false, false, false, false] rfl rfl (by kernel_rfl) (by decide) (fun K hK => ?_)
  refine goes_ Tryd.func21 (by kernel_rfl) rfl #[.agg #[.int .u8 m1, .int .i64 e1, .int .i64 s1, .int .u8 t1, .string c1, .bool k1]] (by rfl) rfl rfl (by simp only [List.map_toArray, List.map_cons, List.map_nil]; rfl) ?_
  refine (HOU.out _).mono ?_
  rintro r wC ⟨rfl, hb⟩
  refine ⟨_, rfl, ?_⟩
  refine hK.out _ _ ⟨(still_keep hHeld hb).1, (still_keep hHeld hb).2⟩ (fun hHeld => ?_)
  clear hK K
  refine norm_ (a' := ?_) ?_ ?_
  rotate_left
  · show Act.put _ (some 48) _ = _
    simp only [Act.put, List.setIfInBounds_toArray, List.set_cons_zero, List.set_cons_succ, i64_w, i32_w]
    rfl
  refine pure_ (i := 3) (N := some 50) (v := ?_) (a' := ?_) #[true, true, true, true, false, false, false, false, false, false, false, false, false, false, false, false, false, false, false, false] rfl rfl (by kernel_rfl) (fun _ _ _ h => h) (Or.inl ⟨by rfl, ?_⟩) ?_ ?_
  rotate_left
  · intro w'
    go_simp
    with_reducible rfl
  rotate_left
  · simp only [Act.put, List.setIfInBounds_toArray, List.set_cons_zero, List.set_cons_succ, i64_w, i32_w]
    rfl
  refine pure_ (i := 4) (N := some 51) (v := ?_) (a' := ?_) #[true, true, true, true, true, false, false, false, false, false, false, false, false, false, false, false, false, false, false, false] rfl rfl (by kernel_rfl) (fun _ _ _ h => h) (Or.inl ⟨by rfl, ?_⟩) ?_ ?_
  rotate_left
  · intro w'
    go_simp
    with_reducible rfl
  rotate_left
  · simp only [Act.put, List.setIfInBounds_toArray, List.set_cons_zero, List.set_cons_succ, i64_w, i32_w]
    rfl
  refine pure_ (i := 5) (N := some 52) (v := ?_) (a' := ?_) #[true, true, true, true, true, true, false, false, false, false, false, false, false, false, false, false, false, false, false, false] rfl rfl (by kernel_rfl) (fun _ _ _ h => h) (Or.inl ⟨by rfl, ?_⟩) ?_ ?_
  rotate_left
  · intro w'
    go_simp
    with_reducible rfl
  rotate_left
  · simp only [Act.put, List.setIfInBounds_toArray, List.set_cons_zero, List.set_cons_succ, i64_w, i32_w]
    rfl
  refine pure_ (i := 6) (N := some 53) (v := ?_) (a' := ?_) #[true, true, true, true, true, true, true, false, false, false, false, false, false, false, false, false, false, false, false, false] rfl rfl (by kernel_rfl) (fun _ _ _ h => h) (Or.inl ⟨by rfl, ?_⟩) ?_ ?_
  rotate_left
  · intro w'
    go_simp
    with_reducible rfl
  rotate_left
  · simp only [Act.put, List.setIfInBounds_toArray, List.set_cons_zero, List.set_cons_succ, i64_w, i32_w]
    rfl
  refine pure_ (i := 7) (N := some 54) (v := ?_) (a' := ?_) #[true, true, true, true, true, true, true, true, false, false, false, false, false, false, false, false, false, false, false, false] rfl rfl (by kernel_rfl) (fun _ _ _ h => h) (Or.inl ⟨by rfl, ?_⟩) ?_ ?_
  rotate_left
  · intro w'
    go_simp
    with_reducible rfl
  rotate_left
  · simp only [Act.put, List.setIfInBounds_toArray, List.set_cons_zero, List.set_cons_succ, i64_w, i32_w]
    rfl
  refine pure_ (i := 8) (N := some 55) (v := ?_) (a' := ?_) #[true, true, true, true, true, true, true, true, true, false, false, false, false, false, false, false, false, false, false, false] rfl rfl (by kernel_rfl) (fun _ _ _ h => h) (Or.inl ⟨by rfl, ?_⟩) ?_ ?_
  rotate_left
  · intro w'
    go_simp
    with_reducible rfl
  rotate_left
  · simp only [Act.put, List.setIfInBounds_toArray, List.set_cons_zero, List.set_cons_succ, i64_w, i32_w]
    rfl
  refine pure_ (i := 9) (N := some 56) (v := ?_) (a' := ?_) #[true, true, true, true, true, true, true, true, true, true, false, false, false, false, false, false, false, false, false, false] rfl rfl (by kernel_rfl) (fun _ _ _ h => h) (Or.inl ⟨by rfl, ?_⟩) ?_ ?_
  rotate_left
  · intro w'
    go_simp
    with_reducible rfl
  rotate_left
  · simp only [Act.put, List.setIfInBounds_toArray, List.set_cons_zero, List.set_cons_succ, i64_w, i32_w]
    rfl
  refine pure_ (i := 10) (N := some 57) (v := ?_) (a' := ?_) #[true, true, true, true, true, true, true, true, true, true, true, false, false, false, false, false, false, false, false, false] rfl rfl (by kernel_rfl) (fun _ _ _ h => h) (Or.inl ⟨by rfl, ?_⟩) ?_ ?_
  rotate_left
  · intro w'
    go_simp
    with_reducible rfl
  rotate_left
  · simp only [Act.put, List.setIfInBounds_toArray, List.set_cons_zero, List.set_cons_succ, i64_w, i32_w]
    rfl
  refine pure_ (i := 11) (N := some 58) (v := ?_) (a' := ?_) #[true, true, true, true, true, true, true, true, true, true, true, true, false, false, false, false, false, false, false, false] rfl rfl (by kernel_rfl) (fun _ _ _ h => h) (Or.inl ⟨by rfl, ?_⟩) ?_ ?_
  rotate_left
  · intro w'
    go_simp
    with_reducible rfl
  rotate_left
  · simp only [Act.put, List.setIfInBounds_toArray, List.set_cons_zero, List.set_cons_succ, i64_w, i32_w]
    rfl
  refine one_ (i := 12) (N := some 59) #[true, true, true, true, true, true, true, true, true, true, true, true, true, false, false, false, false, false, false, false] rfl rfl (by kernel_rfl) (by decide) (fun K hK => ?_)
  refine goes_ Tryd.func22 (by kernel_rfl) rfl #[va, vb] (by rfl) rfl rfl (by simp only [List.map_toArray, List.map_cons, List.map_nil]; rfl) ?_
  refine (HNO.out _ hHeld.1).mono ?_
  rintro r wD ⟨rfl, hb⟩
  refine ⟨_, rfl, ?_⟩
  refine hK.out _ _ ⟨(still_keep hHeld hb).1, (still_keep hHeld hb).2⟩ (fun hHeld => ?_)
  clear hK K
  refine norm_ (a' := ?_) ?_ ?_
  rotate_left
  · show Act.put _ (some 59) _ = _
    simp only [Act.put, List.setIfInBounds_toArray, List.set_cons_zero, List.set_cons_succ, i64_w, i32_w]
    rfl
  refine pure_ (i := 13) (N := some 60) (v := ?_) (a' := ?_) #[true, true, true, true, true, true, true, true, true, true, true, true, true, true, false, false, false, false, false, false] rfl rfl (by kernel_rfl) (fun _ _ _ h => h) (Or.inl ⟨by rfl, ?_⟩) ?_ ?_
  rotate_left
  · intro w'
    go_simp
    with_reducible rfl
  rotate_left
  · simp only [Act.put, List.setIfInBounds_toArray, List.set_cons_zero, List.set_cons_succ, i64_w, i32_w]
    rfl
  refine pure_ (i := 14) (N := some 61) (v := ?_) (a' := ?_) #[true, true, true, true, true, true, true, true, true, true, true, true, true, true, true, false, false, false, false, false] rfl rfl (by kernel_rfl) (fun _ _ _ h => h) (Or.inl ⟨by rfl, ?_⟩) ?_ ?_
  rotate_left
  · intro w'
    go_simp
    with_reducible rfl
  rotate_left
  · simp only [Act.put, List.setIfInBounds_toArray, List.set_cons_zero, List.set_cons_succ, i64_w, i32_w]
    rfl
  refine pure_ (i := 15) (N := some 62) (v := ?_) (a' := ?_) #[true, true, true, true, true, true, true, true, true, true, true, true, true, true, true, true, false, false, false, false] rfl rfl (by kernel_rfl) (fun _ _ _ h => h) (Or.inl ⟨by rfl, ?_⟩) ?_ ?_
  rotate_left
  · intro w'
    go_simp
    with_reducible rfl
  rotate_left
  · simp only [Act.put, List.setIfInBounds_toArray, List.set_cons_zero, List.set_cons_succ, i64_w, i32_w]
    rfl
  refine pure_ (i := 16) (N := some 63) (v := ?_) (a' := ?_) #[true, true, true, true, true, true, true, true, true, true, true, true, true, true, true, true, true, false, false, false] rfl rfl (by kernel_rfl) (fun _ _ _ h => h) (Or.inl ⟨by rfl, ?_⟩) ?_ ?_
  rotate_left
  · intro w'
    go_simp
    with_reducible rfl
  rotate_left
  · simp only [Act.put, List.setIfInBounds_toArray, List.set_cons_zero, List.set_cons_succ, i64_w, i32_w]
    rfl
  refine pure_ (i := 17) (N := some 64) (v := ?_) (a' := ?_) #[true, true, true, true, true, true, true, true, true, true, true, true, true, true, true, true, true, true, false, false] rfl rfl (by kernel_rfl) (fun _ _ _ h => h) (Or.inl ⟨by rfl, ?_⟩) ?_ ?_
  rotate_left
  · intro w'
    go_simp
    with_reducible rfl
  rotate_left
  · simp only [Act.put, List.setIfInBounds_toArray, List.set_cons_zero, List.set_cons_succ, i64_w, i32_w]
    rfl
  refine pure_ (i := 18) (N := some 65) (v := ?_) (a' := ?_) #[true, true, true, true, true, true, true, true, true, true, true, true, true, true, true, true, true, true, true, false] rfl rfl (by kernel_rfl) (fun _ _ _ h => h) (Or.inl ⟨by rfl, ?_⟩) ?_ ?_
  rotate_left
  · intro w'
    go_simp
    with_reducible rfl
  rotate_left
  · simp only [Act.put, List.setIfInBounds_toArray, List.set_cons_zero, List.set_cons_succ, i64_w, i32_w]
    rfl
  refine pure_ (i := 19) (N := some 6) (v := ?_) (a' := ?_) #[true, true, true, true, true, true, true, true, true, true, true, true, true, true, true, true, true, true, true, true] rfl rfl (by kernel_rfl) (fun _ _ _ h => h) (Or.inl ⟨by rfl, ?_⟩) ?_ ?_
  rotate_left
  · intro w'
    go_simp
    with_reducible rfl
  rotate_left
  · simp only [Act.put, List.setIfInBounds_toArray, List.set_cons_zero, List.set_cons_succ, i64_w, i32_w]
    rfl
  refine done_ (by kernel_rfl) ?_

  go_wp2_with fail
  go_ret
  exact ⟨by first | rfl | (simp [*]; done), hBY.trans (hHeld.1.mono hBY.size)⟩
end Go.Proofs.YtajnaiofagppeaaDoor.LAgentShips
