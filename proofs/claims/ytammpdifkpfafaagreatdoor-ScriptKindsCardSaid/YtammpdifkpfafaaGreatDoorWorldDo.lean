/- The world's Do of a quiet kind: what its step answers, and nought. -/
import Derived.Test.YtammpdifkpfafaaGreatDoorWorldTick
import Derived.Test.YtammpdifkpfafaaGreatDoorQuiet
namespace Go.Proofs.YtammpdifkpfafaaGreatDoor.News
open Go.RowKit Flat Go.Proofs.YtammpdifkpfafaaGreatDoorW.PrintLast
set_option linter.unusedSimpArgs false
set_option linter.unusedVariables false
set_option maxRecDepth 100000

/-- A call of a function's value, in a region that draws its order. -/
theorem goesv_ {P : Program} {ops : Array Oper} {Q : Exit → Act → World → Prop} {oi : Oper} {N : Option Tmp} {a : Act} {w : World} {K : Act → World → Prop} {f : FuncId} {fn : Func} {fo : Operand} {ags : Array Operand} {ts : Array TypeId} {caps : Array Value} (hf : P.funcs[f]? = some fn) (hname : (fn.name == "runtime.NumGoroutine") = false) (hb : fn.body.isSome = true) (args : Array Value)
    (hw : Region.wanted oi (yielded ops a.tmps) = true) (hN : oi.dst = N) (hop : oi.op = .call { callee := .value fo, args := ags, argTypes := ts }) (hfo : a.eval fo = .func (.func f) #[] caps) (hargs : ags.map a.eval = args)
    (h : Calls P f (args ++ caps) w fun e w' => ∃ v, e = .returned v ∧ K (a.put N v) w') : if Region.wanted oi (yielded ops a.tmps) = true then Oper.wp P oi a w K Q else K (a.put N undef) w := by
  refine call_ f (args ++ caps) hw hN ?_ h
  have he := enters_ hf hname hb (args ++ caps) w
  unfold execOp
  simp [hop, resolve, Deferred.ofValue, invoke, hfo, hargs, he]
/-- A quiet tick. -/
theorem quiet_tick (g gc bm : Nat) (t : Int) (bx : Nat) (what tx a b kind key n : Int) (hn0 : 0 ≤ n) (hn1 : n ≤ 1048576) (ht0 : 0 ≤ t) (ht1 : t + n ≤ 1099511627776) (w : World) (h : WorldAt w g gc bm t) (hbx : w.cell? ⟨bx, 0, none⟩ = some (.func (.func (kdF 10)) #[] #[])) :
    Calls Tryz.prog 66 #[.pointer (some ⟨g, 0, none⟩), .agg #[.int .i64 what, .int .i64 tx, .int .u8 a, .int .u8 b, .int .i64 kind, .int .u8 key, .int .i64 n], .pointer (some ⟨bx, 0, none⟩)] w fun r w' => r = .returned (.tuple #[.int .i64 0, .int .i64 0]) ∧ w'.cell? ⟨g, 1, none⟩ = some (.pointer (some ⟨gc, 0, none⟩)) ∧ w'.cell? ⟨g, 62, none⟩ = some (.int .i64 (t + n)) ∧ Beside g gc w w' := by
  have HE := Go.Proofs.enters_of Tryz.func57 (by kernel_rfl) rfl
  have HS := Lib.hid (fun W h => world_tick g gc bm t what tx a b kind key n hn0 hn1 ht0 ht1 W h)
  simp only [kdF] at hbx
  have hlt : bx < w.heap.size := Flat.cell_lt hbx
  have HA := Lib.hid h
  clear h hn0 hn1 ht0 ht1
  go_enter Tryz.func66, Tryz.ntmps66
  go_wp2_with fail
  refine (HS.out _ (HA.out.below ((Below.refl _ w).alloc (Nat.le_refl _) _))).mono ?_
  rintro r v ⟨rfl, k1, k2, hb⟩
  have HB := Lib.hid hb
  have K1 := Lib.hid k1
  have K2 := Lib.hid k2
  clear hb HE k1 k2
  go_wp2_with fail
  simp [bodyPost, results, Tryz.results66, go_sem]
  exact ⟨K1.out, K2.out, (Beside.of_below ((Below.refl _ w).alloc (Nat.le_refl _) _)).trans HB.out⟩
set_option maxHeartbeats 4000000 in
theorem do_quiet (g gc j : Nat) (tx a b kind key n e : Int) (hj : j < 14) (hj1 : j ≠ 1) (w : World) (R : World → World → Prop) (h : w.cell? ⟨g, 1, none⟩ = some (.pointer (some ⟨gc, 0, none⟩)))
    (HC : ∀ W bx, Below w.heap.size w W → W.cell? ⟨bx, 0, none⟩ = some (.func (.func (kdF j)) #[] #[]) →
      Calls Tryz.prog 66 #[.pointer (some ⟨g, 0, none⟩), .agg #[.int .i64 ((j : Int) + 1), .int .i64 tx, .int .u8 a, .int .u8 b, .int .i64 kind, .int .u8 key, .int .i64 n], .pointer (some ⟨bx, 0, none⟩)] W fun r w' => r = .returned (.tuple #[.int .i64 0, .int .i64 e]) ∧ R W w') :
    Calls Tryz.prog 13 #[.pointer (some ⟨g, 0, none⟩), .agg #[.int .i64 ((j : Int) + 1), .int .i64 tx, .int .u8 a, .int .u8 b, .int .i64 kind, .int .u8 key, .int .i64 n]] w fun r w' => r = .returned (.tuple #[.int .i64 0, .int .i64 e]) ∧ ∃ W, Below w.heap.size w W ∧ R W w' := by
  have hgl : g < w.heap.size := Flat.cell_lt h
  have hI0 : ¬ ((j : Int) + 1) < 1 := by omega
  have hI1 : ¬ (14 : Int) < (j : Int) + 1 := by omega
  have hI2 : (j : Int) < 14 := by omega
  have hI3 : wrap64 (j : Int) = (j : Int) := by unfold wrap64; omega
  have HCC := Lib.hid HC
  clear HC
  go_enter Tryz.func13, Tryz.ntmps13
  go_wp2_with fail
  generalize hv1 : World.alloc w _ = v1
  obtain ⟨hb1, hz1, hc1⟩ := alloc_facts hv1
  have h1 := (hb1.cell (p := ⟨g, 1, none⟩) hgl).trans h
  have q0 := hc1 0
  have q1 := hc1 1
  have q2 := hc1 2
  have q3 := hc1 3
  have q4 := hc1 4
  have q5 := hc1 5
  have q6 := hc1 6
  have HB1 := Lib.hid hb1
  clear hv1 hc1 hb1
  generalize hgb : w.heap.size = gb at *
  refine (world_good g gc v1 h1).mono ?_
  rintro r v1 ⟨rfl, rfl⟩
  go_wp2_with fail
  refine start_ (n := 14) (S := fun w' => Below v1.heap.size v1 w' ∧ w'.cell? ⟨gb, 0, none⟩ = some (.int .i64 ((j : Int) + 1)) ∧ w'.cell? ⟨gb, 1, none⟩ = some (.int .i64 tx) ∧ w'.cell? ⟨gb, 2, none⟩ = some (.int .u8 a) ∧ w'.cell? ⟨gb, 3, none⟩ = some (.int .u8 b) ∧ w'.cell? ⟨gb, 4, none⟩ = some (.int .i64 kind) ∧ w'.cell? ⟨gb, 5, none⟩ = some (.int .u8 key) ∧ w'.cell? ⟨gb, 6, none⟩ = some (.int .i64 n)) (ds := [9]) #[false, false, false, false, false, false, false, false, false, false, false, false, false, false] (by kernel_rfl) rfl rfl ⟨(still_drew v1).1, q0, q1, q2, q3, q4, q5, q6⟩ (fun hHeld => ?_)
  refine pure_ (i := 1) (N := some 20) (v := ?_) (a' := ?_) #[false, true, false, false, false, false, false, false, false, false, false, false, false, false] rfl rfl (by kernel_rfl) (fun _ _ _ h => h) (Or.inl ⟨by rfl, ?_⟩) ?_ ?_
  rotate_left
  · intro w'
    go_simp
    with_reducible rfl
  rotate_left
  · simp only [Act.put, List.setIfInBounds_toArray, List.set_cons_zero, List.set_cons_succ, i64_w, i32_w]
    rfl
  refine pure_ (i := 7) (N := some 26) (v := ?_) (a' := ?_) #[false, true, false, false, false, false, false, true, false, false, false, false, false, false] rfl rfl (by kernel_rfl) (fun _ _ _ h => h) (Or.inl ⟨by rfl, ?_⟩) ?_ ?_
  rotate_left
  · intro w'
    go_simp
    with_reducible rfl
  rotate_left
  · simp only [Act.put, List.setIfInBounds_toArray, List.set_cons_zero, List.set_cons_succ, i64_w, i32_w]
    rfl
  refine take_ (i := 2) (N := some 21) (v := ?_) (a' := ?_) #[false, true, true, false, false, false, false, true, false, false, false, false, false, false] rfl rfl (by kernel_rfl) (fun _ _ _ h => h) (Or.inl ⟨by rfl, ?_⟩) hHeld ?_ ?_
  rotate_left
  · rintro w' ⟨s0, s1, s2, s3, s4, s5, s6, s7⟩
    go_simp
    with_reducible rfl
  rotate_left
  · simp only [Act.put, List.setIfInBounds_toArray, List.set_cons_zero, List.set_cons_succ, i64_w, i32_w]
    rfl
  refine pure_ (i := 3) (N := some 22) (v := ?_) (a' := ?_) #[false, true, true, true, false, false, false, true, false, false, false, false, false, false] rfl rfl (by kernel_rfl) (fun _ _ _ h => h) (Or.inl ⟨by rfl, ?_⟩) ?_ ?_
  rotate_left
  · intro w'
    go_simp
    with_reducible rfl
  rotate_left
  · simp only [Act.put, List.setIfInBounds_toArray, List.set_cons_zero, List.set_cons_succ, i64_w, i32_w]
    rfl
  refine take_ (i := 8) (N := some 27) (v := ?_) (a' := ?_) #[false, true, true, true, false, false, false, true, true, false, false, false, false, false] rfl rfl (by kernel_rfl) (fun _ _ _ h => h) (Or.inl ⟨by rfl, ?_⟩) hHeld ?_ ?_
  rotate_left
  · rintro w' ⟨s0, s1, s2, s3, s4, s5, s6, s7⟩
    go_simp
    with_reducible rfl
  rotate_left
  · simp only [Act.put, List.setIfInBounds_toArray, List.set_cons_zero, List.set_cons_succ, i64_w, i32_w]
    rfl
  refine one_ (i := 0) (N := some 19) #[true, true, true, true, false, false, false, true, true, false, false, false, false, false] rfl rfl (by kernel_rfl) (by decide) (fun K hK => ?_)
  refine goes_ Tryz.func29 (by kernel_rfl) rfl #[] (by rfl) rfl rfl (by simp only [List.map_toArray, List.map_nil]) ?_
  refine (kinds_any _).mono ?_
  rintro r w3 ⟨gk, bx, rfl, hgk, _, hk, hbk⟩
  refine ⟨_, rfl, ?_⟩
  obtain ⟨hk1, hk2, hk3⟩ := hk j hj hj1
  have hb3 := hHeld.1.trans (hbk.mono hHeld.1.size)
  clear hk
  refine hK.out _ _ ⟨hb3, (hbk.cell (p := ⟨gb, 0, none⟩) (Nat.lt_of_lt_of_le hz1 hHeld.1.size)).trans q0, (hbk.cell (p := ⟨gb, 1, none⟩) (Nat.lt_of_lt_of_le hz1 hHeld.1.size)).trans q1, (hbk.cell (p := ⟨gb, 2, none⟩) (Nat.lt_of_lt_of_le hz1 hHeld.1.size)).trans q2, (hbk.cell (p := ⟨gb, 3, none⟩) (Nat.lt_of_lt_of_le hz1 hHeld.1.size)).trans q3, (hbk.cell (p := ⟨gb, 4, none⟩) (Nat.lt_of_lt_of_le hz1 hHeld.1.size)).trans q4, (hbk.cell (p := ⟨gb, 5, none⟩) (Nat.lt_of_lt_of_le hz1 hHeld.1.size)).trans q5, (hbk.cell (p := ⟨gb, 6, none⟩) (Nat.lt_of_lt_of_le hz1 hHeld.1.size)).trans q6⟩ (fun hHeld => ?_)
  clear hK K
  refine norm_ (a' := ?_) ?_ ?_
  rotate_left
  · show Act.put _ (some 19) _ = _
    simp only [Act.put, List.setIfInBounds_toArray, List.set_cons_zero, List.set_cons_succ, i64_w, i32_w]
    rfl
  refine pure_ (i := 4) (N := some 23) (v := ?_) (a' := ?_) #[true, true, true, true, true, false, false, true, true, false, false, false, false, false] rfl rfl (by kernel_rfl) (fun _ _ _ h => h) (Or.inl ⟨by rfl, ?_⟩) ?_ ?_
  rotate_left
  · intro w'
    go_simp
    with_reducible rfl
  rotate_left
  · simp only [Act.put, List.setIfInBounds_toArray, List.set_cons_zero, List.set_cons_succ, i64_w, i32_w]
    rfl
  refine pure_ (i := 5) (N := some 24) (v := ?_) (a' := ?_) #[true, true, true, true, true, true, false, true, true, false, false, false, false, false] rfl rfl (by kernel_rfl) (fun _ _ _ h => h) (Or.inl ⟨by rfl, ?_⟩) ?_ ?_
  rotate_left
  · intro w'
    go_simp
    with_reducible rfl
  rotate_left
  · simp only [Act.put, List.setIfInBounds_toArray, List.set_cons_zero, List.set_cons_succ, i64_w, i32_w]
    rfl
  refine one_ (i := 6) (N := some 25) #[true, true, true, true, true, true, true, true, true, false, false, false, false, false] rfl rfl (by kernel_rfl) (by decide) (fun K hK => ?_)
  refine value_ (w1 := ?_) (v := ?_) (by rfl) rfl ?_ ?_
  rotate_left 2
  · go_simp
    constructor
    · rfl
    · rfl
  refine hK.out _ _ ⟨hHeld.1, hHeld.2.1, hHeld.2.2.1, hHeld.2.2.2.1, hHeld.2.2.2.2.1, hHeld.2.2.2.2.2.1, hHeld.2.2.2.2.2.2.1, hHeld.2.2.2.2.2.2.2⟩ (fun hHeld => ?_)
  clear hK K
  refine norm_ (a' := ?_) ?_ ?_
  rotate_left
  · show Act.put _ (some 25) _ = _
    simp only [Act.put, List.setIfInBounds_toArray, List.set_cons_zero, List.set_cons_succ, i64_w, i32_w]
    rfl
  refine last_ (i := 9) (N := some 28) #[true, true, true, true, true, true, true, true, true, true, false, false, false, false] rfl rfl (by kernel_rfl) (by decide) (fun K hK => ?_)
  refine goesv_ Tryz.func66 (by kernel_rfl) rfl #[.pointer (some ⟨g, 0, none⟩), .agg #[.int .i64 ((j : Int) + 1), .int .i64 tx, .int .u8 a, .int .u8 b, .int .i64 kind, .int .u8 key, .int .i64 n]] (by rfl) rfl rfl (by rfl) (by simp only [List.map_toArray, List.map_cons, List.map_nil]; rfl) ?_
  refine (HCC.out _ _ (HB1.out.trans (hHeld.1.mono (Nat.le_of_lt hz1))) hk3).mono ?_
  rintro r w9 ⟨rfl, hR⟩
  refine ⟨_, rfl, ?_⟩
  have HR := Lib.hid hR
  have HBW := Lib.hid (HB1.out.trans (hHeld.1.mono (Nat.le_of_lt hz1)))
  clear hR
  refine hK.out _ _ ?_
  clear hK K
  refine norm_ (a' := ?_) ?_ ?_
  rotate_left
  · show Act.put _ (some 28) _ = _
    simp only [Act.put, List.setIfInBounds_toArray, List.set_cons_zero, List.set_cons_succ, i64_w, i32_w]
    rfl
  refine pure_ (i := 10) (N := some 29) (v := ?_) (a' := ?_) #[true, true, true, true, true, true, true, true, true, true, true, false, false, false] rfl rfl (by kernel_rfl) (fun _ _ _ h => h) (Or.inl ⟨by rfl, ?_⟩) ?_ ?_
  rotate_left
  · intro w'
    go_simp
    with_reducible rfl
  rotate_left
  · simp only [Act.put, List.setIfInBounds_toArray, List.set_cons_zero, List.set_cons_succ, i64_w, i32_w]
    rfl
  refine pure_ (i := 11) (N := some 30) (v := ?_) (a' := ?_) #[true, true, true, true, true, true, true, true, true, true, true, true, false, false] rfl rfl (by kernel_rfl) (fun _ _ _ h => h) (Or.inl ⟨by rfl, ?_⟩) ?_ ?_
  rotate_left
  · intro w'
    go_simp
    with_reducible rfl
  rotate_left
  · simp only [Act.put, List.setIfInBounds_toArray, List.set_cons_zero, List.set_cons_succ, i64_w, i32_w]
    rfl
  refine pure_ (i := 12) (N := some 4) (v := ?_) (a' := ?_) #[true, true, true, true, true, true, true, true, true, true, true, true, true, false] rfl rfl (by kernel_rfl) (fun _ _ _ h => h) (Or.inl ⟨by rfl, ?_⟩) ?_ ?_
  rotate_left
  · intro w'
    go_simp
    with_reducible rfl
  rotate_left
  · simp only [Act.put, List.setIfInBounds_toArray, List.set_cons_zero, List.set_cons_succ, i64_w, i32_w]
    rfl
  refine pure_ (i := 13) (N := some 5) (v := ?_) (a' := ?_) #[true, true, true, true, true, true, true, true, true, true, true, true, true, true] rfl rfl (by kernel_rfl) (fun _ _ _ h => h) (Or.inl ⟨by rfl, ?_⟩) ?_ ?_
  rotate_left
  · intro w'
    go_simp
    with_reducible rfl
  rotate_left
  · simp only [Act.put, List.setIfInBounds_toArray, List.set_cons_zero, List.set_cons_succ, i64_w, i32_w]
    rfl
  refine done_ (by kernel_rfl) ?_

  go_wp2_with fail
  simp [bodyPost, results, Tryz.results13, go_sem]
  rw [hgb]
  exact ⟨_, HBW.out, HR.out⟩
end Go.Proofs.YtammpdifkpfafaaGreatDoor.News
