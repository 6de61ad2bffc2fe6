/- The first vote for a transaction stays; the same one once more changes nothing: for every side and every ballot the statement's call returns true. -/
import Derived.Test.YtajnaiofagppeaaDoorAgentAlive
import Derived.Test.YtajnaiofagppeaaDoorZero
namespace Go.Proofs.YtajnaiofagppeaaDoor.LAgentFirst
open Go Go.RowKit CodeSpec AgentSpec NoteSpec LeaseSpec HandSpec Flat Ballot Collect Pack Held Ship Speak AgentSmall Go.Proofs.YtajnaiofagppeaaDoorW.PrintLast
set_option linter.unusedSimpArgs false
set_option linter.unusedVariables false
set_option maxRecDepth 100000
theorem right_size {x : S} (h : rightS x = true) : x.c.size ≤ 500 := by
  unfold rightS at h
  split at h
  · cases h
  · split at h
    · cases h
    · split at h
      · cases h
      · omega
theorem may_vote {b : Ba} (h : mayB b = true) : b.vote = 1 ∨ b.vote = 2 := by
  simp only [mayB, decide_eq_true_eq] at h
  exact h.2.2
theorem first_all (x : S) (b : Ba) : (∃ n, n ≠ 0 ∧ shipA x b = (x, n)) ∨ ∃ m1 c1 k1, shipA x b = (⟨m1, x.e, x.s, x.t, c1, k1⟩, 0) ∧ rightS ⟨m1, x.e, x.s, x.t, c1, k1⟩ = true ∧
    shipA ⟨m1, x.e, x.s, x.t, c1, k1⟩ b = (⟨m1, x.e, x.s, x.t, c1, k1⟩, 0) ∧ shipA ⟨m1, x.e, x.s, x.t, c1, k1⟩ ⟨b.tx, 3 - b.vote⟩ = (⟨m1, x.e, x.s, x.t, c1, k1⟩, 8) ∧ (b.vote = 1 ∨ b.vote = 2) := by
  by_cases h : (shipA x b).2 = 0
  · obtain ⟨h1, h2, h3, h4, h5, h6⟩ := ship_first h
    obtain ⟨y, hy⟩ : ∃ y, shipA x b = (y, 0) := ⟨(shipA x b).1, by rw [← h]⟩
    rw [hy] at h1 h2 h3 h4 h5 h6
    obtain ⟨m1, e1, s1, t1, c1, k1⟩ := y
    dsimp only at h1 h2 h3 h4 h5 h6
    subst h4
    subst h5
    subst h6
    refine .inr ⟨m1, c1, k1, hy, h1, h2, h3, ?_⟩
    cases hb : mayB b with
    | true => exact may_vote hb
    | false => rw [ship_not hb] at hy; simp at hy
  · exact .inl ⟨(shipA x b).2, h, Prod.ext (ship_err h) rfl⟩
theorem lease_field (me e s t : Int) (c : ByteArray) (k : Bool) (W : World) : (Instr.field 45 (.agg #[.int .u8 me, .int .i64 e, .int .i64 s, .int .u8 t, .string c, .bool k]) 1).run Tryd.prog W = .ok (.agg #[.int .i64 e, .int .i64 s, .int .u8 t]) W := by kernel_rfl
set_option maxHeartbeats 4000000 in
theorem walk (c0 : List Value) (c1 : List Value) (w : World) (w0 : Fits [.int .u8, .int .i64, .int .i64, .int .u8, .str, .bool] c0) (w1 : Fits [.int .i64, .int .i64] c1) :
    Calls Tryd.prog 5 #[.agg c0.toArray, .agg c1.toArray] w fun e w' => e = .returned (.bool true) ∧ Below w.heap.size w w' := by
  obtain ⟨me, _, rfl, _, x1⟩ := w0.int
  obtain ⟨e, _, rfl, _, x2⟩ := x1.int
  obtain ⟨s, _, rfl, _, x3⟩ := x2.int
  obtain ⟨t, _, rfl, _, x4⟩ := x3.int
  obtain ⟨c, _, rfl, hc, x5⟩ := x4.str
  obtain ⟨k, _, rfl, x6⟩ := x5.bool
  obtain rfl := x6.done
  obtain ⟨tx, _, rfl, _, y1⟩ := w1.int
  obtain ⟨vt, _, rfl, _, y2⟩ := y1.int
  obtain rfl := y2.done
  clear w0 x1 x2 x3 x4 x5 x6 w1 y1 y2
  by_cases hb : 600 < c.size
  · have hs1 : (600 : Int) < (c.size : Int) := by omega
    go_enter Tryd.func5, Tryd.ntmps5
    go_wp2_with fail
    refine (AgentAlive.alive_any _).mono ?_
    rintro r v1 ⟨rfl, hb1⟩
    obtain ⟨c_hb1, f_hb1, z_hb1⟩ := bcell hb1; have z0_hb1 := z_hb1 (w.heap.size) (by first | omega | (simp only [World.size_alloc, World.size_setCell, World.size_drew, World.heap_drewN] <;> omega)); have z1_hb1 := z_hb1 (w.heap.size + 1) (by first | omega | (simp only [World.size_alloc, World.size_setCell, World.size_drew, World.heap_drewN] <;> omega)); clear z_hb1
    go_wp2_with fail
    go_ret
    refine ⟨rfl, ?_⟩
    repeat (first | (with_reducible exact Below.refl _ _) | (with_reducible assumption) | (with_reducible refine bw_alloc ?_) | (with_reducible refine bw_drew ?_) | (with_reducible refine bw_drewN ?_) | (with_reducible refine bw_set ?_ (by first | (simp; done) | (dsimp only; omega))) | (with_reducible refine bw_via (by assumption) ?_))
  have hs1 : ¬ (600 : Int) < (c.size : Int) := by omega
  have HSD := Lib.hid (fun W => side_any ⟨me, e, s, t, c, k⟩ W)
  have HOU := Lib.hid (fun W => ours_any ⟨me, e, s, t, c, k⟩ W)
  have H1 := Lib.hid (fun W => ship_any ⟨me, e, s, t, c, k⟩ ⟨tx, vt⟩ hc W)
  have HF := first_all ⟨me, e, s, t, c, k⟩ ⟨tx, vt⟩
  dsimp only at H1 HSD HOU HF
  rcases HF with ⟨n, hn, hsh⟩ | ⟨m1, c1, k1, hsh, hr, hs2, hs3, hv⟩
  · rw [hsh] at H1
    clear hsh
    go_enter Tryd.func5, Tryd.ntmps5
    go_wp2_with fail
    refine (AgentAlive.alive_any _).mono ?_; rintro r v1 ⟨rfl, hb1⟩; obtain ⟨c_hb1, f_hb1, z_hb1⟩ := bcell hb1; have z0_hb1 := z_hb1 (w.heap.size) (by first | omega | (simp only [World.size_alloc, World.size_setCell, World.size_drew, World.heap_drewN] <;> omega)); have z1_hb1 := z_hb1 (w.heap.size + 1) (by first | omega | (simp only [World.size_alloc, World.size_setCell, World.size_drew, World.heap_drewN] <;> omega)); clear z_hb1; have a0 : v1.cell? ⟨w.heap.size, 0, none⟩ = some (.int .u8 me) := (by simp [go_sem, c_hb1]); have a1 : v1.cell? ⟨w.heap.size, 1, none⟩ = some (.int .i64 e) := (by simp [go_sem, c_hb1]); have a2 : v1.cell? ⟨w.heap.size, 2, none⟩ = some (.int .i64 s) := (by simp [go_sem, c_hb1]); have a3 : v1.cell? ⟨w.heap.size, 3, none⟩ = some (.int .u8 t) := (by simp [go_sem, c_hb1]); have a4 : v1.cell? ⟨w.heap.size, 4, none⟩ = some (.string c) := (by simp [go_sem, c_hb1]); have a5 : v1.cell? ⟨w.heap.size, 5, none⟩ = some (.bool k) := (by simp [go_sem, c_hb1]); have b0 : v1.cell? ⟨w.heap.size + 1, 0, none⟩ = some (.int .i64 tx) := (by simp [go_sem, c_hb1]); have b1 : v1.cell? ⟨w.heap.size + 1, 1, none⟩ = some (.int .i64 vt) := (by simp [go_sem, c_hb1]); have SA : Six v1 w.heap.size ⟨me, e, s, t, c, k⟩ := ⟨⟨a0, a1, a2, a3, a4, a5⟩, fun o => by simp [go_sem, f_hb1], z0_hb1⟩; clear c_hb1 f_hb1; have hB1 : Below w.heap.size w v1 := (by repeat (first | (with_reducible exact Below.refl _ _) | (with_reducible assumption) | (with_reducible refine bw_alloc ?_) | (with_reducible refine bw_drew ?_) | (with_reducible refine bw_drewN ?_) | (with_reducible refine bw_set ?_ (by first | (simp; done) | (dsimp only; omega))) | (with_reducible refine bw_via (by assumption) ?_))); clear hb1; go_upto_region 5 with (fail)
    refine start_ (n := 10) (S := fun w' => Below v1.heap.size v1 w' ∧ ∀ b o, b < v1.heap.size → w'.cell? ⟨b, o, none⟩ = v1.cell? ⟨b, o, none⟩) (ds := [8]) #[false, false, false, false, false, false, false, false, false, false] (by kernel_rfl) rfl rfl ⟨(still_drew v1).1, (still_drew v1).2⟩ (fun hHeld => ?_)
    generalize v1.drew = wD at hHeld ⊢
    refine take_ (i := 0) (N := some 18) (v := ?_) (a' := ?_) #[true, false, false, false, false, false, false, false, false, false] rfl rfl (by kernel_rfl) (fun _ _ _ h => h) (Or.inl ⟨by rfl, ?_⟩) hHeld ?_ ?_
    rotate_left
    · rintro w' ⟨s0, s1⟩
      go_simp
      with_reducible rfl
    rotate_left
    · simp only [Act.put, List.setIfInBounds_toArray, List.set_cons_zero, List.set_cons_succ, i64_w, i32_w]
      rfl
    refine take_ (i := 2) (N := some 20) (v := ?_) (a' := ?_) #[true, false, true, false, false, false, false, false, false, false] rfl rfl (by kernel_rfl) (fun _ _ _ h => h) (Or.inl ⟨by rfl, ?_⟩) hHeld ?_ ?_
    rotate_left
    · rintro w' ⟨s0, s1⟩
      go_simp
      with_reducible rfl
    rotate_left
    · simp only [Act.put, List.setIfInBounds_toArray, List.set_cons_zero, List.set_cons_succ, i64_w, i32_w]
      rfl
    refine join_ (σ := Nat) 2 #[true, true, true, true, true, true, true, true, false, false] (fun q => [(19, .agg #[.int .u8 me, .int .i64 e, .int .i64 s, .int .u8 t, .string c, .bool k]), (21, .tuple #[.agg #[.int .u8 me, .int .i64 e, .int .i64 s, .int .u8 t, .string c, .bool k], .int .i64 n]), (17, .tuple #[.agg #[.int .u8 me, .int .i64 e, .int .i64 s, .int .u8 t, .string c, .bool k], .int .i64 n]), (22, .agg #[.int .u8 me, .int .i64 e, .int .i64 s, .int .u8 t, .string c, .bool k]), (23, .int .i64 n), (5, .pointer (some ⟨q, 0, none⟩))]) (fun q w' => (Below v1.heap.size v1 w' ∧ ∀ b o, b < v1.heap.size → w'.cell? ⟨b, o, none⟩ = v1.cell? ⟨b, o, none⟩) ∧ Zero w' v1.heap.size q [.int .u8 0, .int .i64 0, .int .i64 0, .int .u8 0, .string ⟨#[]⟩, .bool false]) ?_ ?_
    rotate_left
    · intro hCont
      refine two_ (i := 1) (j := 7) (Ni := some 19) (Nj := some 5) #[true, true, true, false, false, false, false, false, false, false] #[true, false, true, false, false, false, false, true, false, false] rfl rfl rfl rfl (by kernel_rfl) (by decide) (by decide) (fun K hK => ?_) (fun K hK => ?_)
      · skip
        refine goes_ Tryd.func17 (by kernel_rfl) rfl #[.agg #[.int .u8 me, .int .i64 e, .int .i64 s, .int .u8 t, .string c, .bool k]] (by rfl) rfl rfl (by simp only [List.map_toArray, List.map_cons, List.map_nil]; rfl) ?_
        refine (HSD.out _).mono ?_
        rintro r w3 ⟨rfl, hb⟩
        refine ⟨_, rfl, ?_⟩
        refine hK.out _ _ ⟨(still_keep hHeld hb).1, (still_keep hHeld hb).2⟩ (fun hHeld => ?_)
        clear hK K
        refine norm_ (a' := ?_) ?_ ?_
        rotate_left
        · show Act.put _ (some 19) _ = _
          simp only [Act.put, List.setIfInBounds_toArray, List.set_cons_zero, List.set_cons_succ, i64_w, i32_w]
          rfl
        refine two_ (i := 3) (j := 7) (Ni := some 21) (Nj := some 5) #[true, true, true, true, false, false, false, false, false, false] #[true, true, true, false, false, false, false, true, false, false] rfl rfl rfl rfl (by kernel_rfl) (by decide) (by decide) (fun K hK => ?_) (fun K hK => ?_)
        · skip
          refine goes_ Tryd.func16 (by kernel_rfl) rfl #[.agg #[.int .u8 me, .int .i64 e, .int .i64 s, .int .u8 t, .string c, .bool k], .agg #[.int .i64 tx, .int .i64 vt]] (by rfl) rfl rfl (by simp only [List.map_toArray, List.map_cons, List.map_nil]; rfl) ?_
          refine (H1.out _).mono ?_
          rintro r w4 ⟨rfl, hb⟩
          refine ⟨_, rfl, ?_⟩
          refine hK.out _ _ ⟨(still_keep hHeld hb).1, (still_keep hHeld hb).2⟩ (fun hHeld => ?_)
          clear hK K
          refine norm_ (a' := ?_) ?_ ?_
          rotate_left
          · show Act.put _ (some 21) _ = _
            simp only [Act.put, List.setIfInBounds_toArray, List.set_cons_zero, List.set_cons_succ, i64_w, i32_w]
            rfl
          refine pure_ (i := 4) (N := some 17) (v := ?_) (a' := ?_) #[true, true, true, true, true, false, false, false, false, false] rfl rfl (by kernel_rfl) (fun _ _ _ h => h) (Or.inl ⟨by rfl, ?_⟩) ?_ ?_
          rotate_left
          · intro w'
            go_simp
            with_reducible rfl
          rotate_left
          · simp only [Act.put, List.setIfInBounds_toArray, List.set_cons_zero, List.set_cons_succ, i64_w, i32_w]
            rfl
          refine pure_ (i := 5) (N := some 22) (v := ?_) (a' := ?_) #[true, true, true, true, true, true, false, false, false, false] rfl rfl (by kernel_rfl) (fun _ _ _ h => h) (Or.inl ⟨by rfl, ?_⟩) ?_ ?_
          rotate_left
          · intro w'
            go_simp
            with_reducible rfl
          rotate_left
          · simp only [Act.put, List.setIfInBounds_toArray, List.set_cons_zero, List.set_cons_succ, i64_w, i32_w]
            rfl
          refine pure_ (i := 6) (N := some 23) (v := ?_) (a' := ?_) #[true, true, true, true, true, true, true, false, false, false] rfl rfl (by kernel_rfl) (fun _ _ _ h => h) (Or.inl ⟨by rfl, ?_⟩) ?_ ?_
          rotate_left
          · intro w'
            go_simp
            with_reducible rfl
          rotate_left
          · simp only [Act.put, List.setIfInBounds_toArray, List.set_cons_zero, List.set_cons_succ, i64_w, i32_w]
            rfl
          refine one_ (i := 7) (N := some 5) #[true, true, true, true, true, true, true, true, false, false] rfl rfl (by kernel_rfl) (by decide) (fun K hK => ?_)
          refine value_ (w1 := ?_) (v := ?_) (by rfl) rfl ?_ ?_
          rotate_left 2
          · go_simp
            constructor
            · rfl
            · rfl
          generalize hga : World.alloc _ _ = wA
          have hbA := (alloc_facts hga).1
          have hZ := zero_alloc (B := v1.heap.size) hga hHeld.1.size
          clear hga
          refine hK.out _ _ ⟨(still_keep hHeld hbA).1, (still_keep hHeld hbA).2⟩ (fun hHeld => ?_)
          clear hK K
          refine norm_ (a' := ?_) ?_ ?_
          rotate_left
          · show Act.put _ (some 5) _ = _
            simp only [Act.put, List.setIfInBounds_toArray, List.set_cons_zero, List.set_cons_succ, i64_w, i32_w]
            rfl
          exact norm_ (by simp only [putAll, Act.put, List.setIfInBounds_toArray, List.set_cons_zero, List.set_cons_succ]) (hCont (World.heap _).size _ ⟨hHeld, hZ⟩)
        · skip
          refine value_ (w1 := ?_) (v := ?_) (by rfl) rfl ?_ ?_
          rotate_left 2
          · go_simp
            constructor
            · rfl
            · rfl
          generalize hga : World.alloc _ _ = wA
          have hbA := (alloc_facts hga).1
          have hZ := zero_alloc (B := v1.heap.size) hga hHeld.1.size
          clear hga
          refine hK.out _ _ ⟨(still_keep hHeld hbA).1, (still_keep hHeld hbA).2⟩ (fun hHeld => ?_)
          clear hK K
          refine norm_ (a' := ?_) ?_ ?_
          rotate_left
          · show Act.put _ (some 5) _ = _
            simp only [Act.put, List.setIfInBounds_toArray, List.set_cons_zero, List.set_cons_succ, i64_w, i32_w]
            rfl
          refine one_ (i := 3) (N := some 21) #[true, true, true, true, false, false, false, true, false, false] rfl rfl (by kernel_rfl) (by decide) (fun K hK => ?_)
          refine goes_ Tryd.func16 (by kernel_rfl) rfl #[.agg #[.int .u8 me, .int .i64 e, .int .i64 s, .int .u8 t, .string c, .bool k], .agg #[.int .i64 tx, .int .i64 vt]] (by rfl) rfl rfl (by simp only [List.map_toArray, List.map_cons, List.map_nil]; rfl) ?_
          refine (H1.out _).mono ?_
          rintro r w4 ⟨rfl, hb⟩
          refine ⟨_, rfl, ?_⟩
          have hZ := zero_stay hb hZ
          refine hK.out _ _ ⟨(still_keep hHeld hb).1, (still_keep hHeld hb).2⟩ (fun hHeld => ?_)
          clear hK K
          refine norm_ (a' := ?_) ?_ ?_
          rotate_left
          · show Act.put _ (some 21) _ = _
            simp only [Act.put, List.setIfInBounds_toArray, List.set_cons_zero, List.set_cons_succ, i64_w, i32_w]
            rfl
          refine pure_ (i := 4) (N := some 17) (v := ?_) (a' := ?_) #[true, true, true, true, true, false, false, true, false, false] rfl rfl (by kernel_rfl) (fun _ _ _ h => h) (Or.inl ⟨by rfl, ?_⟩) ?_ ?_
          rotate_left
          · intro w'
            go_simp
            with_reducible rfl
          rotate_left
          · simp only [Act.put, List.setIfInBounds_toArray, List.set_cons_zero, List.set_cons_succ, i64_w, i32_w]
            rfl
          refine pure_ (i := 5) (N := some 22) (v := ?_) (a' := ?_) #[true, true, true, true, true, true, false, true, false, false] rfl rfl (by kernel_rfl) (fun _ _ _ h => h) (Or.inl ⟨by rfl, ?_⟩) ?_ ?_
          rotate_left
          · intro w'
            go_simp
            with_reducible rfl
          rotate_left
          · simp only [Act.put, List.setIfInBounds_toArray, List.set_cons_zero, List.set_cons_succ, i64_w, i32_w]
            rfl
          refine pure_ (i := 6) (N := some 23) (v := ?_) (a' := ?_) #[true, true, true, true, true, true, true, true, false, false] rfl rfl (by kernel_rfl) (fun _ _ _ h => h) (Or.inl ⟨by rfl, ?_⟩) ?_ ?_
          rotate_left
          · intro w'
            go_simp
            with_reducible rfl
          rotate_left
          · simp only [Act.put, List.setIfInBounds_toArray, List.set_cons_zero, List.set_cons_succ, i64_w, i32_w]
            rfl
          exact norm_ (by simp only [putAll, Act.put, List.setIfInBounds_toArray, List.set_cons_zero, List.set_cons_succ]) (hCont (World.heap _).size _ ⟨hHeld, hZ⟩)
      · skip
        refine value_ (w1 := ?_) (v := ?_) (by rfl) rfl ?_ ?_
        rotate_left 2
        · go_simp
          constructor
          · rfl
          · rfl
        generalize hga : World.alloc _ _ = wA
        have hbA := (alloc_facts hga).1
        have hZ := zero_alloc (B := v1.heap.size) hga hHeld.1.size
        clear hga
        refine hK.out _ _ ⟨(still_keep hHeld hbA).1, (still_keep hHeld hbA).2⟩ (fun hHeld => ?_)
        clear hK K
        refine norm_ (a' := ?_) ?_ ?_
        rotate_left
        · show Act.put _ (some 5) _ = _
          simp only [Act.put, List.setIfInBounds_toArray, List.set_cons_zero, List.set_cons_succ, i64_w, i32_w]
          rfl
        refine one_ (i := 1) (N := some 19) #[true, true, true, false, false, false, false, true, false, false] rfl rfl (by kernel_rfl) (by decide) (fun K hK => ?_)
        refine goes_ Tryd.func17 (by kernel_rfl) rfl #[.agg #[.int .u8 me, .int .i64 e, .int .i64 s, .int .u8 t, .string c, .bool k]] (by rfl) rfl rfl (by simp only [List.map_toArray, List.map_cons, List.map_nil]; rfl) ?_
        refine (HSD.out _).mono ?_
        rintro r w3 ⟨rfl, hb⟩
        refine ⟨_, rfl, ?_⟩
        have hZ := zero_stay hb hZ
        refine hK.out _ _ ⟨(still_keep hHeld hb).1, (still_keep hHeld hb).2⟩ (fun hHeld => ?_)
        clear hK K
        refine norm_ (a' := ?_) ?_ ?_
        rotate_left
        · show Act.put _ (some 19) _ = _
          simp only [Act.put, List.setIfInBounds_toArray, List.set_cons_zero, List.set_cons_succ, i64_w, i32_w]
          rfl
        refine one_ (i := 3) (N := some 21) #[true, true, true, true, false, false, false, true, false, false] rfl rfl (by kernel_rfl) (by decide) (fun K hK => ?_)
        refine goes_ Tryd.func16 (by kernel_rfl) rfl #[.agg #[.int .u8 me, .int .i64 e, .int .i64 s, .int .u8 t, .string c, .bool k], .agg #[.int .i64 tx, .int .i64 vt]] (by rfl) rfl rfl (by simp only [List.map_toArray, List.map_cons, List.map_nil]; rfl) ?_
        refine (H1.out _).mono ?_
        rintro r w4 ⟨rfl, hb⟩
        refine ⟨_, rfl, ?_⟩
        have hZ := zero_stay hb hZ
        refine hK.out _ _ ⟨(still_keep hHeld hb).1, (still_keep hHeld hb).2⟩ (fun hHeld => ?_)
        clear hK K
        refine norm_ (a' := ?_) ?_ ?_
        rotate_left
        · show Act.put _ (some 21) _ = _
          simp only [Act.put, List.setIfInBounds_toArray, List.set_cons_zero, List.set_cons_succ, i64_w, i32_w]
          rfl
        refine pure_ (i := 4) (N := some 17) (v := ?_) (a' := ?_) #[true, true, true, true, true, false, false, true, false, false] rfl rfl (by kernel_rfl) (fun _ _ _ h => h) (Or.inl ⟨by rfl, ?_⟩) ?_ ?_
        rotate_left
        · intro w'
          go_simp
          with_reducible rfl
        rotate_left
        · simp only [Act.put, List.setIfInBounds_toArray, List.set_cons_zero, List.set_cons_succ, i64_w, i32_w]
          rfl
        refine pure_ (i := 5) (N := some 22) (v := ?_) (a' := ?_) #[true, true, true, true, true, true, false, true, false, false] rfl rfl (by kernel_rfl) (fun _ _ _ h => h) (Or.inl ⟨by rfl, ?_⟩) ?_ ?_
        rotate_left
        · intro w'
          go_simp
          with_reducible rfl
        rotate_left
        · simp only [Act.put, List.setIfInBounds_toArray, List.set_cons_zero, List.set_cons_succ, i64_w, i32_w]
          rfl
        refine pure_ (i := 6) (N := some 23) (v := ?_) (a' := ?_) #[true, true, true, true, true, true, true, true, false, false] rfl rfl (by kernel_rfl) (fun _ _ _ h => h) (Or.inl ⟨by rfl, ?_⟩) ?_ ?_
        rotate_left
        · intro w'
          go_simp
          with_reducible rfl
        rotate_left
        · simp only [Act.put, List.setIfInBounds_toArray, List.set_cons_zero, List.set_cons_succ, i64_w, i32_w]
          rfl
        exact norm_ (by simp only [putAll, Act.put, List.setIfInBounds_toArray, List.set_cons_zero, List.set_cons_succ]) (hCont (World.heap _).size _ ⟨hHeld, hZ⟩)
    rintro g w5 ⟨hHeld, hg, hgl, hgc, hgf⟩
    refine norm_ (a' := ?_) ?_ ?_
    rotate_left
    · simp only [putAll, Act.put, List.setIfInBounds_toArray, List.set_cons_zero, List.set_cons_succ]
      rfl
    refine last_ (i := 8) (N := none) #[true, true, true, true, true, true, true, true, true, false] rfl rfl (by kernel_rfl) (by decide) (fun K hK => ?_)
    refine skip_ (w1 := ?_) (by rfl) rfl ?_ ?_
    rotate_left
    · go_simp
      rfl
    refine hK.out _ _ ?_
    clear hK K
    refine pure_ (i := 9) (N := some 6) (v := ?_) (a' := ?_) #[true, true, true, true, true, true, true, true, true, true] rfl rfl (by kernel_rfl) (fun _ _ _ h => h) (Or.inl ⟨by rfl, ?_⟩) ?_ ?_
    rotate_left
    · intro w'
      go_simp
      with_reducible rfl
    rotate_left
    · simp only [Act.put, List.setIfInBounds_toArray, List.set_cons_zero, List.set_cons_succ, i64_w, i32_w]
      rfl
    refine done_ (by kernel_rfl) ?_

    have S0 : Six w5 g ⟨0, 0, 0, 0, ⟨#[]⟩, false⟩ := ⟨⟨hgc 0, hgc 1, hgc 2, hgc 3, hgc 4, hgc 5⟩, hgf, hgl⟩
    have SA5 := SA.under hHeld.1 z0_hb1
    have b0 := (hHeld.1.cell (p := ⟨w.heap.size + 1, 0, none⟩) z1_hb1).trans b0
    have b1 := (hHeld.1.cell (p := ⟨w.heap.size + 1, 1, none⟩) z1_hb1).trans b1
    have hB5 := hB1.trans (hHeld.1.mono hB1.size)
    have hgw : w.heap.size + 1 < g := by omega
    obtain ⟨q0, q1, q2, q3, q4, q5⟩ := S0.1
    dsimp only at q0 q1 q2 q3 q4 q5
    have HS0 := Lib.hid S0
    clear S0 hgc hHeld SA a0 a1 a2 a3 a4 a5 hg hB1
    generalize hW : World.setCell _ _ _ = W
    obtain ⟨S1, hBW, hzW, hoW⟩ := six_set (y := ⟨me, e, s, t, c, k⟩) HS0.out hW
    have SA6 := SA5.under hBW (by omega)
    have b0 := (hBW.cell (p := ⟨w.heap.size + 1, 0, none⟩) hgw).trans b0
    have b1 := (hBW.cell (p := ⟨w.heap.size + 1, 1, none⟩) hgw).trans b1
    have zb : w.heap.size + 1 < W.heap.size := by omega
    have hB6 := hB5.trans (hBW.mono (by omega))
    clear hW HS0 SA5 hB5 hBW hzW hoW q0 q1 q2 q3 q4 q5 hgf hgl z0_hb1 z1_hb1
    have hnb : (n != 0) = true := bne_iff_ne.2 hn
    obtain ⟨⟨a0, a1, a2, a3, a4, a5⟩, _, z0⟩ := SA6
    obtain ⟨⟨q0, q1, q2, q3, q4, q5⟩, _, z1⟩ := S1
    dsimp only at a0 a1 a2 a3 a4 a5 q0 q1 q2 q3 q4 q5
    go_upto_region 7 with fail
    refine start_ (n := 5) (S := fun w' => Below W.heap.size W w' ∧ ∀ b o, b < W.heap.size → w'.cell? ⟨b, o, none⟩ = W.cell? ⟨b, o, none⟩) (ds := []) #[false, false, false, false, false] (by kernel_rfl) rfl rfl ⟨(still_drew W).1, (still_drew W).2⟩ (fun hHeld => ?_)
    refine take_ (i := 0) (N := some 26) (v := ?_) (a' := ?_) #[true, false, false, false, false] rfl rfl (by kernel_rfl) (fun _ _ _ h => h) (Or.inl ⟨by rfl, ?_⟩) hHeld ?_ ?_
    rotate_left
    · rintro w' ⟨s0, s1⟩
      go_simp
      with_reducible rfl
    rotate_left
    · simp only [Act.put, List.setIfInBounds_toArray, List.set_cons_zero, List.set_cons_succ, i64_w, i32_w]
      rfl
    refine take_ (i := 2) (N := some 28) (v := ?_) (a' := ?_) #[true, false, true, false, false] rfl rfl (by kernel_rfl) (fun _ _ _ h => h) (Or.inl ⟨by rfl, ?_⟩) hHeld ?_ ?_
    rotate_left
    · rintro w' ⟨s0, s1⟩
      go_simp
      with_reducible rfl
    rotate_left
    · simp only [Act.put, List.setIfInBounds_toArray, List.set_cons_zero, List.set_cons_succ, i64_w, i32_w]
      rfl
    refine one_ (i := 1) (N := some 27) #[true, true, true, false, false] rfl rfl (by kernel_rfl) (by decide) (fun K hK => ?_)
    refine goes_ Tryd.func21 (by kernel_rfl) rfl #[.agg #[.int .u8 me, .int .i64 e, .int .i64 s, .int .u8 t, .string c, .bool k]] (by rfl) rfl rfl (by simp only [List.map_toArray, List.map_cons, List.map_nil]; rfl) ?_
    refine (HOU.out _).mono ?_
    rintro r w9 ⟨rfl, hb⟩
    refine ⟨_, rfl, ?_⟩
    refine hK.out _ _ ⟨(still_keep hHeld hb).1, (still_keep hHeld hb).2⟩ (fun hHeld => ?_)
    clear hK K
    refine norm_ (a' := ?_) ?_ ?_
    rotate_left
    · show Act.put _ (some 27) _ = _
      simp only [Act.put, List.setIfInBounds_toArray, List.set_cons_zero, List.set_cons_succ, i64_w, i32_w]
      rfl
    refine pure_ (i := 3) (N := some 29) (v := ?_) (a' := ?_) #[true, true, true, true, false] rfl rfl (by kernel_rfl) (fun _ _ _ h => h) (Or.inl ⟨by rfl, ?_⟩) ?_ ?_
    rotate_left
    · intro w'
      go_simp
      with_reducible rfl
    rotate_left
    · simp only [Act.put, List.setIfInBounds_toArray, List.set_cons_zero, List.set_cons_succ, i64_w, i32_w]
      rfl
    refine pure_ (i := 4) (N := some 4) (v := ?_) (a' := ?_) #[true, true, true, true, true] rfl rfl (by kernel_rfl) (fun _ _ _ h => h) (Or.inl ⟨by rfl, ?_⟩) ?_ ?_
    rotate_left
    · intro w'
      go_simp
      with_reducible rfl
    rotate_left
    · simp only [Act.put, List.setIfInBounds_toArray, List.set_cons_zero, List.set_cons_succ, i64_w, i32_w]
      rfl
    refine done_ (by kernel_rfl) ?_

    go_wp2_with fail
    go_ret
    exact ⟨by first | rfl | (simp [*]; done), hB6.trans (hHeld.1.mono hB6.size)⟩
  · rw [hsh] at H1
    have hc1 : c1.size ≤ maxLen := by have := right_size hr; dsimp only at this; unfold maxLen; omega
    have H2 := Lib.hid (fun W => ship_any ⟨m1, e, s, t, c1, k1⟩ ⟨tx, vt⟩ hc1 W)
    have H3 := Lib.hid (fun W => ship_any ⟨m1, e, s, t, c1, k1⟩ ⟨tx, 3 - vt⟩ hc1 W)
    have H4 := Lib.hid (fun W => Hand.right_hand ⟨m1, e, s, t, c1, k1⟩ W hc1)
    rw [hs2] at H2
    rw [hs3] at H3
    rw [hr] at H4
    dsimp only at H2 H3 H4
    have hw3 : IntKind.i64.wrap (3 - vt) = 3 - vt := by rw [IntKind.wrap_i64]; omega
    clear hsh hs2 hs3 hr
    go_enter Tryd.func5, Tryd.ntmps5
    go_wp2_with fail
    refine (AgentAlive.alive_any _).mono ?_; rintro r v1 ⟨rfl, hb1⟩; obtain ⟨c_hb1, f_hb1, z_hb1⟩ := bcell hb1; have z0_hb1 := z_hb1 (w.heap.size) (by first | omega | (simp only [World.size_alloc, World.size_setCell, World.size_drew, World.heap_drewN] <;> omega)); have z1_hb1 := z_hb1 (w.heap.size + 1) (by first | omega | (simp only [World.size_alloc, World.size_setCell, World.size_drew, World.heap_drewN] <;> omega)); clear z_hb1; have a0 : v1.cell? ⟨w.heap.size, 0, none⟩ = some (.int .u8 me) := (by simp [go_sem, c_hb1]); have a1 : v1.cell? ⟨w.heap.size, 1, none⟩ = some (.int .i64 e) := (by simp [go_sem, c_hb1]); have a2 : v1.cell? ⟨w.heap.size, 2, none⟩ = some (.int .i64 s) := (by simp [go_sem, c_hb1]); have a3 : v1.cell? ⟨w.heap.size, 3, none⟩ = some (.int .u8 t) := (by simp [go_sem, c_hb1]); have a4 : v1.cell? ⟨w.heap.size, 4, none⟩ = some (.string c) := (by simp [go_sem, c_hb1]); have a5 : v1.cell? ⟨w.heap.size, 5, none⟩ = some (.bool k) := (by simp [go_sem, c_hb1]); have b0 : v1.cell? ⟨w.heap.size + 1, 0, none⟩ = some (.int .i64 tx) := (by simp [go_sem, c_hb1]); have b1 : v1.cell? ⟨w.heap.size + 1, 1, none⟩ = some (.int .i64 vt) := (by simp [go_sem, c_hb1]); have SA : Six v1 w.heap.size ⟨me, e, s, t, c, k⟩ := ⟨⟨a0, a1, a2, a3, a4, a5⟩, fun o => by simp [go_sem, f_hb1], z0_hb1⟩; clear c_hb1 f_hb1; have hB1 : Below w.heap.size w v1 := (by repeat (first | (with_reducible exact Below.refl _ _) | (with_reducible assumption) | (with_reducible refine bw_alloc ?_) | (with_reducible refine bw_drew ?_) | (with_reducible refine bw_drewN ?_) | (with_reducible refine bw_set ?_ (by first | (simp; done) | (dsimp only; omega))) | (with_reducible refine bw_via (by assumption) ?_))); clear hb1; go_upto_region 5 with (fail)
    refine start_ (n := 10) (S := fun w' => Below v1.heap.size v1 w' ∧ ∀ b o, b < v1.heap.size → w'.cell? ⟨b, o, none⟩ = v1.cell? ⟨b, o, none⟩) (ds := [8]) #[false, false, false, false, false, false, false, false, false, false] (by kernel_rfl) rfl rfl ⟨(still_drew v1).1, (still_drew v1).2⟩ (fun hHeld => ?_)
    generalize v1.drew = wD at hHeld ⊢
    refine take_ (i := 0) (N := some 18) (v := ?_) (a' := ?_) #[true, false, false, false, false, false, false, false, false, false] rfl rfl (by kernel_rfl) (fun _ _ _ h => h) (Or.inl ⟨by rfl, ?_⟩) hHeld ?_ ?_
    rotate_left
    · rintro w' ⟨s0, s1⟩
      go_simp
      with_reducible rfl
    rotate_left
    · simp only [Act.put, List.setIfInBounds_toArray, List.set_cons_zero, List.set_cons_succ, i64_w, i32_w]
      rfl
    refine take_ (i := 2) (N := some 20) (v := ?_) (a' := ?_) #[true, false, true, false, false, false, false, false, false, false] rfl rfl (by kernel_rfl) (fun _ _ _ h => h) (Or.inl ⟨by rfl, ?_⟩) hHeld ?_ ?_
    rotate_left
    · rintro w' ⟨s0, s1⟩
      go_simp
      with_reducible rfl
    rotate_left
    · simp only [Act.put, List.setIfInBounds_toArray, List.set_cons_zero, List.set_cons_succ, i64_w, i32_w]
      rfl
    refine join_ (σ := Nat) 2 #[true, true, true, true, true, true, true, true, false, false] (fun q => [(19, .agg #[.int .u8 me, .int .i64 e, .int .i64 s, .int .u8 t, .string c, .bool k]), (21, .tuple #[.agg #[.int .u8 m1, .int .i64 e, .int .i64 s, .int .u8 t, .string c1, .bool k1], .int .i64 0]), (17, .tuple #[.agg #[.int .u8 m1, .int .i64 e, .int .i64 s, .int .u8 t, .string c1, .bool k1], .int .i64 0]), (22, .agg #[.int .u8 m1, .int .i64 e, .int .i64 s, .int .u8 t, .string c1, .bool k1]), (23, .int .i64 0), (5, .pointer (some ⟨q, 0, none⟩))]) (fun q w' => (Below v1.heap.size v1 w' ∧ ∀ b o, b < v1.heap.size → w'.cell? ⟨b, o, none⟩ = v1.cell? ⟨b, o, none⟩) ∧ Zero w' v1.heap.size q [.int .u8 0, .int .i64 0, .int .i64 0, .int .u8 0, .string ⟨#[]⟩, .bool false]) ?_ ?_
    rotate_left
    · intro hCont
      refine two_ (i := 1) (j := 7) (Ni := some 19) (Nj := some 5) #[true, true, true, false, false, false, false, false, false, false] #[true, false, true, false, false, false, false, true, false, false] rfl rfl rfl rfl (by kernel_rfl) (by decide) (by decide) (fun K hK => ?_) (fun K hK => ?_)
      · skip
        refine goes_ Tryd.func17 (by kernel_rfl) rfl #[.agg #[.int .u8 me, .int .i64 e, .int .i64 s, .int .u8 t, .string c, .bool k]] (by rfl) rfl rfl (by simp only [List.map_toArray, List.map_cons, List.map_nil]; rfl) ?_
        refine (HSD.out _).mono ?_
        rintro r w3 ⟨rfl, hb⟩
        refine ⟨_, rfl, ?_⟩
        refine hK.out _ _ ⟨(still_keep hHeld hb).1, (still_keep hHeld hb).2⟩ (fun hHeld => ?_)
        clear hK K
        refine norm_ (a' := ?_) ?_ ?_
        rotate_left
        · show Act.put _ (some 19) _ = _
          simp only [Act.put, List.setIfInBounds_toArray, List.set_cons_zero, List.set_cons_succ, i64_w, i32_w]
          rfl
        refine two_ (i := 3) (j := 7) (Ni := some 21) (Nj := some 5) #[true, true, true, true, false, false, false, false, false, false] #[true, true, true, false, false, false, false, true, false, false] rfl rfl rfl rfl (by kernel_rfl) (by decide) (by decide) (fun K hK => ?_) (fun K hK => ?_)
        · skip
          refine goes_ Tryd.func16 (by kernel_rfl) rfl #[.agg #[.int .u8 me, .int .i64 e, .int .i64 s, .int .u8 t, .string c, .bool k], .agg #[.int .i64 tx, .int .i64 vt]] (by rfl) rfl rfl (by simp only [List.map_toArray, List.map_cons, List.map_nil]; rfl) ?_
          refine (H1.out _).mono ?_
          rintro r w4 ⟨rfl, hb⟩
          refine ⟨_, rfl, ?_⟩
          refine hK.out _ _ ⟨(still_keep hHeld hb).1, (still_keep hHeld hb).2⟩ (fun hHeld => ?_)
          clear hK K
          refine norm_ (a' := ?_) ?_ ?_
          rotate_left
          · show Act.put _ (some 21) _ = _
            simp only [Act.put, List.setIfInBounds_toArray, List.set_cons_zero, List.set_cons_succ, i64_w, i32_w]
            rfl
          refine pure_ (i := 4) (N := some 17) (v := ?_) (a' := ?_) #[true, true, true, true, true, false, false, false, false, false] rfl rfl (by kernel_rfl) (fun _ _ _ h => h) (Or.inl ⟨by rfl, ?_⟩) ?_ ?_
          rotate_left
          · intro w'
            go_simp
            with_reducible rfl
          rotate_left
          · simp only [Act.put, List.setIfInBounds_toArray, List.set_cons_zero, List.set_cons_succ, i64_w, i32_w]
            rfl
          refine pure_ (i := 5) (N := some 22) (v := ?_) (a' := ?_) #[true, true, true, true, true, true, false, false, false, false] rfl rfl (by kernel_rfl) (fun _ _ _ h => h) (Or.inl ⟨by rfl, ?_⟩) ?_ ?_
          rotate_left
          · intro w'
            go_simp
            with_reducible rfl
          rotate_left
          · simp only [Act.put, List.setIfInBounds_toArray, List.set_cons_zero, List.set_cons_succ, i64_w, i32_w]
            rfl
          refine pure_ (i := 6) (N := some 23) (v := ?_) (a' := ?_) #[true, true, true, true, true, true, true, false, false, false] rfl rfl (by kernel_rfl) (fun _ _ _ h => h) (Or.inl ⟨by rfl, ?_⟩) ?_ ?_
          rotate_left
          · intro w'
            go_simp
            with_reducible rfl
          rotate_left
          · simp only [Act.put, List.setIfInBounds_toArray, List.set_cons_zero, List.set_cons_succ, i64_w, i32_w]
            rfl
          refine one_ (i := 7) (N := some 5) #[true, true, true, true, true, true, true, true, false, false] rfl rfl (by kernel_rfl) (by decide) (fun K hK => ?_)
          refine value_ (w1 := ?_) (v := ?_) (by rfl) rfl ?_ ?_
          rotate_left 2
          · go_simp
            constructor
            · rfl
            · rfl
          generalize hga : World.alloc _ _ = wA
          have hbA := (alloc_facts hga).1
          have hZ := zero_alloc (B := v1.heap.size) hga hHeld.1.size
          clear hga
          refine hK.out _ _ ⟨(still_keep hHeld hbA).1, (still_keep hHeld hbA).2⟩ (fun hHeld => ?_)
          clear hK K
          refine norm_ (a' := ?_) ?_ ?_
          rotate_left
          · show Act.put _ (some 5) _ = _
            simp only [Act.put, List.setIfInBounds_toArray, List.set_cons_zero, List.set_cons_succ, i64_w, i32_w]
            rfl
          exact norm_ (by simp only [putAll, Act.put, List.setIfInBounds_toArray, List.set_cons_zero, List.set_cons_succ]) (hCont (World.heap _).size _ ⟨hHeld, hZ⟩)
        · skip
          refine value_ (w1 := ?_) (v := ?_) (by rfl) rfl ?_ ?_
          rotate_left 2
          · go_simp
            constructor
            · rfl
            · rfl
          generalize hga : World.alloc _ _ = wA
          have hbA := (alloc_facts hga).1
          have hZ := zero_alloc (B := v1.heap.size) hga hHeld.1.size
          clear hga
          refine hK.out _ _ ⟨(still_keep hHeld hbA).1, (still_keep hHeld hbA).2⟩ (fun hHeld => ?_)
          clear hK K
          refine norm_ (a' := ?_) ?_ ?_
          rotate_left
          · show Act.put _ (some 5) _ = _
            simp only [Act.put, List.setIfInBounds_toArray, List.set_cons_zero, List.set_cons_succ, i64_w, i32_w]
            rfl
          refine one_ (i := 3) (N := some 21) #[true, true, true, true, false, false, false, true, false, false] rfl rfl (by kernel_rfl) (by decide) (fun K hK => ?_)
          refine goes_ Tryd.func16 (by kernel_rfl) rfl #[.agg #[.int .u8 me, .int .i64 e, .int .i64 s, .int .u8 t, .string c, .bool k], .agg #[.int .i64 tx, .int .i64 vt]] (by rfl) rfl rfl (by simp only [List.map_toArray, List.map_cons, List.map_nil]; rfl) ?_
          refine (H1.out _).mono ?_
          rintro r w4 ⟨rfl, hb⟩
          refine ⟨_, rfl, ?_⟩
          have hZ := zero_stay hb hZ
          refine hK.out _ _ ⟨(still_keep hHeld hb).1, (still_keep hHeld hb).2⟩ (fun hHeld => ?_)
          clear hK K
          refine norm_ (a' := ?_) ?_ ?_
          rotate_left
          · show Act.put _ (some 21) _ = _
            simp only [Act.put, List.setIfInBounds_toArray, List.set_cons_zero, List.set_cons_succ, i64_w, i32_w]
            rfl
          refine pure_ (i := 4) (N := some 17) (v := ?_) (a' := ?_) #[true, true, true, true, true, false, false, true, false, false] rfl rfl (by kernel_rfl) (fun _ _ _ h => h) (Or.inl ⟨by rfl, ?_⟩) ?_ ?_
          rotate_left
          · intro w'
            go_simp
            with_reducible rfl
          rotate_left
          · simp only [Act.put, List.setIfInBounds_toArray, List.set_cons_zero, List.set_cons_succ, i64_w, i32_w]
            rfl
          refine pure_ (i := 5) (N := some 22) (v := ?_) (a' := ?_) #[true, true, true, true, true, true, false, true, false, false] rfl rfl (by kernel_rfl) (fun _ _ _ h => h) (Or.inl ⟨by rfl, ?_⟩) ?_ ?_
          rotate_left
          · intro w'
            go_simp
            with_reducible rfl
          rotate_left
          · simp only [Act.put, List.setIfInBounds_toArray, List.set_cons_zero, List.set_cons_succ, i64_w, i32_w]
            rfl
          refine pure_ (i := 6) (N := some 23) (v := ?_) (a' := ?_) #[true, true, true, true, true, true, true, true, false, false] rfl rfl (by kernel_rfl) (fun _ _ _ h => h) (Or.inl ⟨by rfl, ?_⟩) ?_ ?_
          rotate_left
          · intro w'
            go_simp
            with_reducible rfl
          rotate_left
          · simp only [Act.put, List.setIfInBounds_toArray, List.set_cons_zero, List.set_cons_succ, i64_w, i32_w]
            rfl
          exact norm_ (by simp only [putAll, Act.put, List.setIfInBounds_toArray, List.set_cons_zero, List.set_cons_succ]) (hCont (World.heap _).size _ ⟨hHeld, hZ⟩)
      · skip
        refine value_ (w1 := ?_) (v := ?_) (by rfl) rfl ?_ ?_
        rotate_left 2
        · go_simp
          constructor
          · rfl
          · rfl
        generalize hga : World.alloc _ _ = wA
        have hbA := (alloc_facts hga).1
        have hZ := zero_alloc (B := v1.heap.size) hga hHeld.1.size
        clear hga
        refine hK.out _ _ ⟨(still_keep hHeld hbA).1, (still_keep hHeld hbA).2⟩ (fun hHeld => ?_)
        clear hK K
        refine norm_ (a' := ?_) ?_ ?_
        rotate_left
        · show Act.put _ (some 5) _ = _
          simp only [Act.put, List.setIfInBounds_toArray, List.set_cons_zero, List.set_cons_succ, i64_w, i32_w]
          rfl
        refine one_ (i := 1) (N := some 19) #[true, true, true, false, false, false, false, true, false, false] rfl rfl (by kernel_rfl) (by decide) (fun K hK => ?_)
        refine goes_ Tryd.func17 (by kernel_rfl) rfl #[.agg #[.int .u8 me, .int .i64 e, .int .i64 s, .int .u8 t, .string c, .bool k]] (by rfl) rfl rfl (by simp only [List.map_toArray, List.map_cons, List.map_nil]; rfl) ?_
        refine (HSD.out _).mono ?_
        rintro r w3 ⟨rfl, hb⟩
        refine ⟨_, rfl, ?_⟩
        have hZ := zero_stay hb hZ
        refine hK.out _ _ ⟨(still_keep hHeld hb).1, (still_keep hHeld hb).2⟩ (fun hHeld => ?_)
        clear hK K
        refine norm_ (a' := ?_) ?_ ?_
        rotate_left
        · show Act.put _ (some 19) _ = _
          simp only [Act.put, List.setIfInBounds_toArray, List.set_cons_zero, List.set_cons_succ, i64_w, i32_w]
          rfl
        refine one_ (i := 3) (N := some 21) #[true, true, true, true, false, false, false, true, false, false] rfl rfl (by kernel_rfl) (by decide) (fun K hK => ?_)
        refine goes_ Tryd.func16 (by kernel_rfl) rfl #[.agg #[.int .u8 me, .int .i64 e, .int .i64 s, .int .u8 t, .string c, .bool k], .agg #[.int .i64 tx, .int .i64 vt]] (by rfl) rfl rfl (by simp only [List.map_toArray, List.map_cons, List.map_nil]; rfl) ?_
        refine (H1.out _).mono ?_
        rintro r w4 ⟨rfl, hb⟩
        refine ⟨_, rfl, ?_⟩
        have hZ := zero_stay hb hZ
        refine hK.out _ _ ⟨(still_keep hHeld hb).1, (still_keep hHeld hb).2⟩ (fun hHeld => ?_)
        clear hK K
        refine norm_ (a' := ?_) ?_ ?_
        rotate_left
        · show Act.put _ (some 21) _ = _
          simp only [Act.put, List.setIfInBounds_toArray, List.set_cons_zero, List.set_cons_succ, i64_w, i32_w]
          rfl
        refine pure_ (i := 4) (N := some 17) (v := ?_) (a' := ?_) #[true, true, true, true, true, false, false, true, false, false] rfl rfl (by kernel_rfl) (fun _ _ _ h => h) (Or.inl ⟨by rfl, ?_⟩) ?_ ?_
        rotate_left
        · intro w'
          go_simp
          with_reducible rfl
        rotate_left
        · simp only [Act.put, List.setIfInBounds_toArray, List.set_cons_zero, List.set_cons_succ, i64_w, i32_w]
          rfl
        refine pure_ (i := 5) (N := some 22) (v := ?_) (a' := ?_) #[true, true, true, true, true, true, false, true, false, false] rfl rfl (by kernel_rfl) (fun _ _ _ h => h) (Or.inl ⟨by rfl, ?_⟩) ?_ ?_
        rotate_left
        · intro w'
          go_simp
          with_reducible rfl
        rotate_left
        · simp only [Act.put, List.setIfInBounds_toArray, List.set_cons_zero, List.set_cons_succ, i64_w, i32_w]
          rfl
        refine pure_ (i := 6) (N := some 23) (v := ?_) (a' := ?_) #[true, true, true, true, true, true, true, true, false, false] rfl rfl (by kernel_rfl) (fun _ _ _ h => h) (Or.inl ⟨by rfl, ?_⟩) ?_ ?_
        rotate_left
        · intro w'
          go_simp
          with_reducible rfl
        rotate_left
        · simp only [Act.put, List.setIfInBounds_toArray, List.set_cons_zero, List.set_cons_succ, i64_w, i32_w]
          rfl
        exact norm_ (by simp only [putAll, Act.put, List.setIfInBounds_toArray, List.set_cons_zero, List.set_cons_succ]) (hCont (World.heap _).size _ ⟨hHeld, hZ⟩)
    rintro g w5 ⟨hHeld, hg, hgl, hgc, hgf⟩
    refine norm_ (a' := ?_) ?_ ?_
    rotate_left
    · simp only [putAll, Act.put, List.setIfInBounds_toArray, List.set_cons_zero, List.set_cons_succ]
      rfl
    refine last_ (i := 8) (N := none) #[true, true, true, true, true, true, true, true, true, false] rfl rfl (by kernel_rfl) (by decide) (fun K hK => ?_)
    refine skip_ (w1 := ?_) (by rfl) rfl ?_ ?_
    rotate_left
    · go_simp
      rfl
    refine hK.out _ _ ?_
    clear hK K
    refine pure_ (i := 9) (N := some 6) (v := ?_) (a' := ?_) #[true, true, true, true, true, true, true, true, true, true] rfl rfl (by kernel_rfl) (fun _ _ _ h => h) (Or.inl ⟨by rfl, ?_⟩) ?_ ?_
    rotate_left
    · intro w'
      go_simp
      with_reducible rfl
    rotate_left
    · simp only [Act.put, List.setIfInBounds_toArray, List.set_cons_zero, List.set_cons_succ, i64_w, i32_w]
      rfl
    refine done_ (by kernel_rfl) ?_

    have S0 : Six w5 g ⟨0, 0, 0, 0, ⟨#[]⟩, false⟩ := ⟨⟨hgc 0, hgc 1, hgc 2, hgc 3, hgc 4, hgc 5⟩, hgf, hgl⟩
    have SA5 := SA.under hHeld.1 z0_hb1
    have b0 := (hHeld.1.cell (p := ⟨w.heap.size + 1, 0, none⟩) z1_hb1).trans b0
    have b1 := (hHeld.1.cell (p := ⟨w.heap.size + 1, 1, none⟩) z1_hb1).trans b1
    have hB5 := hB1.trans (hHeld.1.mono hB1.size)
    have hgw : w.heap.size + 1 < g := by omega
    obtain ⟨q0, q1, q2, q3, q4, q5⟩ := S0.1
    dsimp only at q0 q1 q2 q3 q4 q5
    have HS0 := Lib.hid S0
    clear S0 hgc hHeld SA a0 a1 a2 a3 a4 a5 hg hB1
    generalize hW : World.setCell _ _ _ = W
    obtain ⟨S1, hBW, hzW, hoW⟩ := six_set (y := ⟨m1, e, s, t, c1, k1⟩) HS0.out hW
    have SA6 := SA5.under hBW (by omega)
    have b0 := (hBW.cell (p := ⟨w.heap.size + 1, 0, none⟩) hgw).trans b0
    have b1 := (hBW.cell (p := ⟨w.heap.size + 1, 1, none⟩) hgw).trans b1
    have zb : w.heap.size + 1 < W.heap.size := by omega
    have hB6 := hB5.trans (hBW.mono (by omega))
    clear hW HS0 SA5 hB5 hBW hzW hoW q0 q1 q2 q3 q4 q5 hgf hgl z0_hb1 z1_hb1
    have HSA := Lib.hid SA6
    have HS1 := Lib.hid S1
    obtain ⟨⟨q0, q1, q2, q3, q4, q5⟩, _, z1⟩ := S1
    dsimp only at q0 q1 q2 q3 q4 q5
    go_wp2_with fail
    refine (H2.out _).mono ?_
    rintro r w7 ⟨rfl, hb7⟩
    have S7 := HS1.out.below hb7
    have SA7 := HSA.out.below hb7
    have hB7 := hB6.trans (hb7.mono hB6.size)
    have b0 := (hb7.cell (p := ⟨w.heap.size + 1, 0, none⟩) zb).trans b0
    have b1 := (hb7.cell (p := ⟨w.heap.size + 1, 1, none⟩) zb).trans b1
    have zb := Nat.lt_of_lt_of_le zb hb7.size
    clear HS1 HSA hB6 hb7 q0 q1 q2 q3 q4 q5 SA6 z1
    have HSA := Lib.hid SA7
    have HS1 := Lib.hid S7
    obtain ⟨⟨q0, q1, q2, q3, q4, q5⟩, _, z1⟩ := S7
    dsimp only at q0 q1 q2 q3 q4 q5
    go_wp2_with fail
    generalize hW8 : World.alloc w7 _ = W8
    have SB := six_new (x := ⟨m1, e, s, t, c1, k1⟩) hW8
    obtain ⟨hb8, _, _⟩ := alloc_facts hW8
    have S8 := HS1.out.below hb8
    have SA8 := HSA.out.below hb8
    have hB8 := hB7.trans (hb8.mono hB7.size)
    generalize w7.heap.size = g7 at *
    clear HS1 HSA hB7 hb8 q0 q1 q2 q3 q4 q5 SA7 z1 hW8 b0 b1
    refine (H3.out _).mono ?_
    rintro r w9 ⟨rfl, hb9⟩
    have S9 := S8.below hb9
    have SA9 := SA8.below hb9
    have SB9 := SB.below hb9
    have hB9 := hB8.trans (hb9.mono hB8.size)
    clear S8 SA8 SB hB8 hb9
    go_upto_region 10 with fail
    generalize hWA : World.alloc w9 _ = WA
    have SC := six_new (x := ⟨m1, e, s, t, c1, k1⟩) hWA
    obtain ⟨hba, _, _⟩ := alloc_facts hWA
    have SX := S9.below hba
    have SAX := SA9.below hba
    have SBX := SB9.below hba
    have hBX := hB9.trans (hba.mono hB9.size)
    generalize w9.heap.size = g9 at *
    clear S9 SA9 SB9 hB9 hba hWA
    obtain ⟨⟨a0, a1, a2, a3, a4, a5⟩, _, za⟩ := SAX
    obtain ⟨⟨q0, q1, q2, q3, q4, q5⟩, _, zq⟩ := SX
    obtain ⟨⟨p0, p1, p2, p3, p4, p5⟩, _, zp⟩ := SBX
    obtain ⟨⟨r0, r1, r2, r3, r4, r5⟩, _, zr⟩ := SC
    dsimp only at a0 a1 a2 a3 a4 a5 q0 q1 q2 q3 q4 q5 p0 p1 p2 p3 p4 p5 r0 r1 r2 r3 r4 r5
    have hfld := lease_field me e s t c k
    refine start_ (n := 29) (S := fun w' => Below WA.heap.size WA w' ∧ ∀ b o, b < WA.heap.size → w'.cell? ⟨b, o, none⟩ = WA.cell? ⟨b, o, none⟩) (ds := []) #[false, false, false, false, false, false, false, false, false, false, false, false, false, false, false, false, false, false, false, false, false, false, false, false, false, false, false, false, false] (by kernel_rfl) rfl rfl ⟨(still_drew WA).1, (still_drew WA).2⟩ (fun hHeld => ?_)
    refine pure_ (i := 0) (N := some 47) (v := ?_) (a' := ?_) #[true, false, false, false, false, false, false, false, false, false, false, false, false, false, false, false, false, false, false, false, false, false, false, false, false, false, false, false, false] rfl rfl (by kernel_rfl) (fun _ _ _ h => h) (Or.inl ⟨by rfl, ?_⟩) ?_ ?_
    rotate_left
    · intro w'
      go_simp
      with_reducible rfl
    rotate_left
    · simp only [Act.put, List.setIfInBounds_toArray, List.set_cons_zero, List.set_cons_succ, i64_w, i32_w]
      rfl
    refine pure_ (i := 1) (N := some 48) (v := ?_) (a' := ?_) #[true, true, false, false, false, false, false, false, false, false, false, false, false, false, false, false, false, false, false, false, false, false, false, false, false, false, false, false, false] rfl rfl (by kernel_rfl) (fun _ _ _ h => h) (Or.inl ⟨by rfl, ?_⟩) ?_ ?_
    rotate_left
    · intro w'
      go_simp
      with_reducible rfl
    rotate_left
    · simp only [Act.put, List.setIfInBounds_toArray, List.set_cons_zero, List.set_cons_succ, i64_w, i32_w]
      rfl
    refine pure_ (i := 2) (N := some 49) (v := ?_) (a' := ?_) #[true, true, true, false, false, false, false, false, false, false, false, false, false, false, false, false, false, false, false, false, false, false, false, false, false, false, false, false, false] rfl rfl (by kernel_rfl) (fun _ _ _ h => h) (Or.inl ⟨by rfl, ?_⟩) ?_ ?_
    rotate_left
    · intro w'
      go_simp
      with_reducible rfl
    rotate_left
    · simp only [Act.put, List.setIfInBounds_toArray, List.set_cons_zero, List.set_cons_succ, i64_w, i32_w]
      rfl
    refine take_ (i := 3) (N := some 50) (v := ?_) (a' := ?_) #[true, true, true, true, false, false, false, false, false, false, false, false, false, false, false, false, false, false, false, false, false, false, false, false, false, false, false, false, false] rfl rfl (by kernel_rfl) (fun _ _ _ h => h) (Or.inl ⟨by rfl, ?_⟩) hHeld ?_ ?_
    rotate_left
    · rintro w' ⟨s0, s1⟩
      go_simp
      with_reducible rfl
    rotate_left
    · simp only [Act.put, List.setIfInBounds_toArray, List.set_cons_zero, List.set_cons_succ, i64_w, i32_w]
      rfl
    refine take_ (i := 4) (N := some 51) (v := ?_) (a' := ?_) #[true, true, true, true, true, false, false, false, false, false, false, false, false, false, false, false, false, false, false, false, false, false, false, false, false, false, false, false, false] rfl rfl (by kernel_rfl) (fun _ _ _ h => h) (Or.inl ⟨by rfl, ?_⟩) hHeld ?_ ?_
    rotate_left
    · rintro w' ⟨s0, s1⟩
      go_simp
      with_reducible rfl
    rotate_left
    · simp only [Act.put, List.setIfInBounds_toArray, List.set_cons_zero, List.set_cons_succ, i64_w, i32_w]
      rfl
    refine pure_ (i := 5) (N := some 52) (v := ?_) (a' := ?_) #[true, true, true, true, true, true, false, false, false, false, false, false, false, false, false, false, false, false, false, false, false, false, false, false, false, false, false, false, false] rfl rfl (by kernel_rfl) (fun _ _ _ h => h) (Or.inl ⟨by rfl, ?_⟩) ?_ ?_
    rotate_left
    · intro w'
      go_simp
      with_reducible rfl
    rotate_left
    · simp only [Act.put, List.setIfInBounds_toArray, List.set_cons_zero, List.set_cons_succ, i64_w, i32_w]
      rfl
    refine pure_ (i := 6) (N := some 53) (v := ?_) (a' := ?_) #[true, true, true, true, true, true, true, false, false, false, false, false, false, false, false, false, false, false, false, false, false, false, false, false, false, false, false, false, false] rfl rfl (by kernel_rfl) (fun _ _ _ h => h) (Or.inl ⟨by rfl, ?_⟩) ?_ ?_
    rotate_left
    · intro w'
      go_simp
      with_reducible rfl
    rotate_left
    · simp only [Act.put, List.setIfInBounds_toArray, List.set_cons_zero, List.set_cons_succ, i64_w, i32_w]
      rfl
    refine pure_ (i := 7) (N := some 54) (v := ?_) (a' := ?_) #[true, true, true, true, true, true, true, true, false, false, false, false, false, false, false, false, false, false, false, false, false, false, false, false, false, false, false, false, false] rfl rfl (by kernel_rfl) (fun _ _ _ h => h) (Or.inl ⟨by rfl, ?_⟩) ?_ ?_
    rotate_left
    · intro w'
      go_simp
      with_reducible rfl
    rotate_left
    · simp only [Act.put, List.setIfInBounds_toArray, List.set_cons_zero, List.set_cons_succ, i64_w, i32_w]
      rfl
    refine pure_ (i := 8) (N := some 55) (v := ?_) (a' := ?_) #[true, true, true, true, true, true, true, true, true, false, false, false, false, false, false, false, false, false, false, false, false, false, false, false, false, false, false, false, false] rfl rfl (by kernel_rfl) (fun _ _ _ h => h) (Or.inl ⟨by rfl, ?_⟩) ?_ ?_
    rotate_left
    · intro w'
      go_simp
      with_reducible rfl
    rotate_left
    · simp only [Act.put, List.setIfInBounds_toArray, List.set_cons_zero, List.set_cons_succ, i64_w, i32_w]
      rfl
    refine pure_ (i := 9) (N := some 56) (v := ?_) (a' := ?_) #[true, true, true, true, true, true, true, true, true, true, false, false, false, false, false, false, false, false, false, false, false, false, false, false, false, false, false, false, false] rfl rfl (by kernel_rfl) (fun _ _ _ h => h) (Or.inl ⟨by rfl, ?_⟩) ?_ ?_
    rotate_left
    · intro w'
      go_simp
      with_reducible rfl
    rotate_left
    · simp only [Act.put, List.setIfInBounds_toArray, List.set_cons_zero, List.set_cons_succ, i64_w, i32_w]
      rfl
    refine pure_ (i := 10) (N := some 57) (v := ?_) (a' := ?_) #[true, true, true, true, true, true, true, true, true, true, true, false, false, false, false, false, false, false, false, false, false, false, false, false, false, false, false, false, false] rfl rfl (by kernel_rfl) (fun _ _ _ h => h) (Or.inl ⟨by rfl, ?_⟩) ?_ ?_
    rotate_left
    · intro w'
      go_simp
      with_reducible rfl
    rotate_left
    · simp only [Act.put, List.setIfInBounds_toArray, List.set_cons_zero, List.set_cons_succ, i64_w, i32_w]
      rfl
    refine pure_ (i := 11) (N := some 58) (v := ?_) (a' := ?_) #[true, true, true, true, true, true, true, true, true, true, true, true, false, false, false, false, false, false, false, false, false, false, false, false, false, false, false, false, false] rfl rfl (by kernel_rfl) (fun _ _ _ h => h) (Or.inl ⟨by rfl, ?_⟩) ?_ ?_
    rotate_left
    · intro w'
      go_simp
      with_reducible rfl
    rotate_left
    · simp only [Act.put, List.setIfInBounds_toArray, List.set_cons_zero, List.set_cons_succ, i64_w, i32_w]
      rfl
    refine take_ (i := 12) (N := some 59) (v := ?_) (a' := ?_) #[true, true, true, true, true, true, true, true, true, true, true, true, true, false, false, false, false, false, false, false, false, false, false, false, false, false, false, false, false] rfl rfl (by kernel_rfl) (fun _ _ _ h => h) (Or.inl ⟨by rfl, ?_⟩) hHeld ?_ ?_
    rotate_left
    · rintro w' ⟨s0, s1⟩
      go_simp
      with_reducible rfl
    rotate_left
    · simp only [Act.put, List.setIfInBounds_toArray, List.set_cons_zero, List.set_cons_succ, i64_w, i32_w]
      rfl
    refine take_ (i := 13) (N := some 60) (v := ?_) (a' := ?_) #[true, true, true, true, true, true, true, true, true, true, true, true, true, true, false, false, false, false, false, false, false, false, false, false, false, false, false, false, false] rfl rfl (by kernel_rfl) (fun _ _ _ h => h) (Or.inl ⟨by rfl, ?_⟩) hHeld ?_ ?_
    rotate_left
    · rintro w' ⟨s0, s1⟩
      go_simp
      with_reducible rfl
    rotate_left
    · simp only [Act.put, List.setIfInBounds_toArray, List.set_cons_zero, List.set_cons_succ, i64_w, i32_w]
      rfl
    refine pure_ (i := 14) (N := some 61) (v := ?_) (a' := ?_) #[true, true, true, true, true, true, true, true, true, true, true, true, true, true, true, false, false, false, false, false, false, false, false, false, false, false, false, false, false] rfl rfl (by kernel_rfl) (fun _ _ _ h => h) (Or.inl ⟨by rfl, ?_⟩) ?_ ?_
    rotate_left
    · intro w'
      go_simp
      with_reducible rfl
    rotate_left
    · simp only [Act.put, List.setIfInBounds_toArray, List.set_cons_zero, List.set_cons_succ, i64_w, i32_w]
      rfl
    refine pure_ (i := 15) (N := some 62) (v := ?_) (a' := ?_) #[true, true, true, true, true, true, true, true, true, true, true, true, true, true, true, true, false, false, false, false, false, false, false, false, false, false, false, false, false] rfl rfl (by kernel_rfl) (fun _ _ _ h => h) (Or.inl ⟨by rfl, ?_⟩) ?_ ?_
    rotate_left
    · intro w'
      go_simp
      with_reducible rfl
    rotate_left
    · simp only [Act.put, List.setIfInBounds_toArray, List.set_cons_zero, List.set_cons_succ, i64_w, i32_w]
      rfl
    refine pure_ (i := 16) (N := some 63) (v := ?_) (a' := ?_) #[true, true, true, true, true, true, true, true, true, true, true, true, true, true, true, true, true, false, false, false, false, false, false, false, false, false, false, false, false] rfl rfl (by kernel_rfl) (fun _ _ _ h => h) (Or.inl ⟨by rfl, ?_⟩) ?_ ?_
    rotate_left
    · intro w'
      go_simp
      with_reducible rfl
    rotate_left
    · simp only [Act.put, List.setIfInBounds_toArray, List.set_cons_zero, List.set_cons_succ, i64_w, i32_w]
      rfl
    refine take_ (i := 17) (N := some 64) (v := ?_) (a' := ?_) #[true, true, true, true, true, true, true, true, true, true, true, true, true, true, true, true, true, true, false, false, false, false, false, false, false, false, false, false, false] rfl rfl (by kernel_rfl) (fun _ _ _ h => h) (Or.inl ⟨by rfl, ?_⟩) hHeld ?_ ?_
    rotate_left
    · rintro w' ⟨s0, s1⟩
      go_simp
      with_reducible rfl
    rotate_left
    · simp only [Act.put, List.setIfInBounds_toArray, List.set_cons_zero, List.set_cons_succ, i64_w, i32_w]
      rfl
    refine one_ (i := 18) (N := some 65) #[true, true, true, true, true, true, true, true, true, true, true, true, true, true, true, true, true, true, true, false, false, false, false, false, false, false, false, false, false] rfl rfl (by kernel_rfl) (by decide) (fun K hK => ?_)
    refine goes_ Tryd.func23 (by kernel_rfl) rfl #[.agg #[.int .u8 m1, .int .i64 e, .int .i64 s, .int .u8 t, .string c1, .bool k1]] (by rfl) rfl rfl (by simp only [List.map_toArray, List.map_cons, List.map_nil]; rfl) ?_
    refine (H4.out _).mono ?_
    rintro r wB ⟨rfl, hb⟩
    refine ⟨_, rfl, ?_⟩
    refine hK.out _ _ ⟨(still_keep hHeld hb).1, (still_keep hHeld hb).2⟩ (fun hHeld => ?_)
    clear hK K
    refine norm_ (a' := ?_) ?_ ?_
    rotate_left
    · show Act.put _ (some 65) _ = _
      simp only [Act.put, List.setIfInBounds_toArray, List.set_cons_zero, List.set_cons_succ, i64_w, i32_w]
      rfl
    refine pure_ (i := 19) (N := some 66) (v := ?_) (a' := ?_) #[true, true, true, true, true, true, true, true, true, true, true, true, true, true, true, true, true, true, true, true, false, false, false, false, false, false, false, false, false] rfl rfl (by kernel_rfl) (fun _ _ _ h => h) (Or.inl ⟨by rfl, ?_⟩) ?_ ?_
    rotate_left
    · intro w'
      go_simp
      with_reducible rfl
    rotate_left
    · simp only [Act.put, List.setIfInBounds_toArray, List.set_cons_zero, List.set_cons_succ, i64_w, i32_w]
      rfl
    refine pure_ (i := 20) (N := some 67) (v := ?_) (a' := ?_) #[true, true, true, true, true, true, true, true, true, true, true, true, true, true, true, true, true, true, true, true, true, false, false, false, false, false, false, false, false] rfl rfl (by kernel_rfl) (fun _ _ _ h => h) (Or.inl ⟨by rfl, ?_⟩) ?_ ?_
    rotate_left
    · intro w'
      go_simp
      with_reducible rfl
    rotate_left
    · simp only [Act.put, List.setIfInBounds_toArray, List.set_cons_zero, List.set_cons_succ, i64_w, i32_w]
      rfl
    refine pure_ (i := 21) (N := some 68) (v := ?_) (a' := ?_) #[true, true, true, true, true, true, true, true, true, true, true, true, true, true, true, true, true, true, true, true, true, true, false, false, false, false, false, false, false] rfl rfl (by kernel_rfl) (fun _ _ _ h => h) (Or.inl ⟨by rfl, ?_⟩) ?_ ?_
    rotate_left
    · intro w'
      go_simp
      with_reducible rfl
    rotate_left
    · simp only [Act.put, List.setIfInBounds_toArray, List.set_cons_zero, List.set_cons_succ, i64_w, i32_w]
      rfl
    refine take_ (i := 22) (N := some 69) (v := ?_) (a' := ?_) #[true, true, true, true, true, true, true, true, true, true, true, true, true, true, true, true, true, true, true, true, true, true, true, false, false, false, false, false, false] rfl rfl (by kernel_rfl) (fun _ _ _ h => h) (Or.inl ⟨by rfl, ?_⟩) hHeld ?_ ?_
    rotate_left
    · rintro w' ⟨s0, s1⟩
      go_simp
      with_reducible rfl
    rotate_left
    · simp only [Act.put, List.setIfInBounds_toArray, List.set_cons_zero, List.set_cons_succ, i64_w, i32_w]
      rfl
    refine take_ (i := 23) (N := some 70) (v := ?_) (a' := ?_) #[true, true, true, true, true, true, true, true, true, true, true, true, true, true, true, true, true, true, true, true, true, true, true, true, false, false, false, false, false] rfl rfl (by kernel_rfl) (fun _ _ _ h => h) (Or.inl ⟨by rfl, ?_⟩) hHeld ?_ ?_
    rotate_left
    · rintro w' ⟨s0, s1⟩
      go_simp
      with_reducible rfl
    rotate_left
    · simp only [Act.put, List.setIfInBounds_toArray, List.set_cons_zero, List.set_cons_succ, i64_w, i32_w]
      rfl
    refine one_ (i := 24) (N := some 71) #[true, true, true, true, true, true, true, true, true, true, true, true, true, true, true, true, true, true, true, true, true, true, true, true, true, false, false, false, false] rfl rfl (by kernel_rfl) (by decide) (fun K hK => ?_)
    refine goes_ Tryd.func17 (by kernel_rfl) rfl #[.agg #[.int .u8 me, .int .i64 e, .int .i64 s, .int .u8 t, .string c, .bool k]] (by rfl) rfl rfl (by simp only [List.map_toArray, List.map_cons, List.map_nil]; rfl) ?_
    refine (HSD.out _).mono ?_
    rintro r wC ⟨rfl, hb⟩
    refine ⟨_, rfl, ?_⟩
    refine hK.out _ _ ⟨(still_keep hHeld hb).1, (still_keep hHeld hb).2⟩ (fun hHeld => ?_)
    clear hK K
    refine norm_ (a' := ?_) ?_ ?_
    rotate_left
    · show Act.put _ (some 71) _ = _
      simp only [Act.put, List.setIfInBounds_toArray, List.set_cons_zero, List.set_cons_succ, i64_w, i32_w]
      rfl
    refine pure_ (i := 25) (N := some 72) (v := ?_) (a' := ?_) #[true, true, true, true, true, true, true, true, true, true, true, true, true, true, true, true, true, true, true, true, true, true, true, true, true, true, false, false, false] rfl rfl (by kernel_rfl) (fun _ _ _ h => h) (Or.inl ⟨by rfl, ?_⟩) ?_ ?_
    rotate_left
    · intro w'
      go_simp
      with_reducible rfl
    rotate_left
    · simp only [Act.put, List.setIfInBounds_toArray, List.set_cons_zero, List.set_cons_succ, i64_w, i32_w]
      rfl
    refine pure_ (i := 26) (N := some 73) (v := ?_) (a' := ?_) #[true, true, true, true, true, true, true, true, true, true, true, true, true, true, true, true, true, true, true, true, true, true, true, true, true, true, true, false, false] rfl rfl (by kernel_rfl) (fun _ _ _ h => h) (Or.inl ⟨by rfl, ?_⟩) ?_ ?_
    rotate_left
    · intro w'
      go_simp
      with_reducible rfl
    rotate_left
    · simp only [Act.put, List.setIfInBounds_toArray, List.set_cons_zero, List.set_cons_succ, i64_w, i32_w]
      rfl
    refine pure_ (i := 27) (N := some 74) (v := ?_) (a' := ?_) #[true, true, true, true, true, true, true, true, true, true, true, true, true, true, true, true, true, true, true, true, true, true, true, true, true, true, true, true, false] rfl rfl (by kernel_rfl) (fun _ _ _ h => h) (Or.inl ⟨by rfl, ?_⟩) ?_ ?_
    rotate_left
    · intro w'
      go_simp
      with_reducible rfl
    rotate_left
    · simp only [Act.put, List.setIfInBounds_toArray, List.set_cons_zero, List.set_cons_succ, i64_w, i32_w]
      rfl
    refine pure_ (i := 28) (N := some 4) (v := ?_) (a' := ?_) #[true, true, true, true, true, true, true, true, true, true, true, true, true, true, true, true, true, true, true, true, true, true, true, true, true, true, true, true, true] rfl rfl (by kernel_rfl) (fun _ _ _ h => h) (Or.inl ⟨by rfl, ?_⟩) ?_ ?_
    rotate_left
    · intro w'
      go_simp
      with_reducible rfl
    rotate_left
    · simp only [Act.put, List.setIfInBounds_toArray, List.set_cons_zero, List.set_cons_succ, i64_w, i32_w]
      rfl
    refine done_ (by kernel_rfl) ?_

    go_wp2_with fail
    go_ret
    exact ⟨by first | rfl | (simp [*]; done), hBX.trans (hHeld.1.mono hBX.size)⟩
end Go.Proofs.YtajnaiofagppeaaDoor.LAgentFirst
