/- chair.Do of a tick where there are no deals, and no log. -/
import Derived.Test.YtammpdifkpfafaaGreatDoorTick
import Derived.Test.YtammpdifkpfafaaGreatDoorAppend
import Derived.Test.YtammpdifkpfafaaGreatDoorScriptDec
import Derived.Laws.Cover3
namespace Go.Proofs.YtammpdifkpfafaaGreatDoor.News
open Go.RowKit Flat Go.Proofs.YtammpdifkpfafaaGreatDoorW.PrintLast
set_option linter.unusedSimpArgs false
set_option linter.unusedVariables false
set_option maxRecDepth 100000

theorem chair_good (g bm : Nat) (w : World) (hg : w.cell? ⟨g, 0, none⟩ = some (.map (some bm))) : Calls Tryz.prog 32 #[.pointer (some ⟨g, 0, none⟩)] w fun r w' => r = .returned (.bool true) ∧ w' = w := by
  have hnm := fun w => run_neq_map_nil (P := Tryz.prog) w 103 3 102 (some bm) Tryz.underlying103
  go_enter Tryz.func32, Tryz.ntmps32
  go_wp2_with fail
  go_ret
  exact ⟨rfl, rfl⟩
set_option maxHeartbeats 1000000 in
theorem step_tick (g bm : Nat) (now : Int) (w : World) (hg : w.cell? ⟨g, 0, none⟩ = some (.map (some bm))) (ho : MapV.Own Tryz.prog .i64 3 w bm MapV.none_ 0) :
    Calls Tryz.prog 89 #[.pointer (some ⟨g, 0, none⟩), .agg #[.int .i64 4, .int .i64 0, .int .u8 0, .int .i64 0, .int .i64 0, .int .i64 now, .int .i64 0, .int .i64 0]] w fun r w' => r = .returned (.tuple #[.int .i64 0, .int .i64 0]) ∧ Below w.heap.size w w' := by
  have hgl : g < w.heap.size := Flat.cell_lt hg
  go_enter Tryz.func89, Tryz.ntmps89
  go_wp2_with fail
  generalize hv1 : World.alloc w _ = v1
  obtain ⟨hb1, hz1, hc1⟩ := alloc_facts hv1
  have hg1 := (hb1.cell (p := ⟨g, 0, none⟩) hgl).trans hg
  have ho1 := ho.below hb1 ho.lt
  clear hv1
  refine (tick_empty g bm now v1 hg1 ho1).mono ?_
  rintro r v2 ⟨rfl, hb2⟩
  have HB := Lib.hid (hb1.trans (hb2.mono (by omega)))
  clear hb1 hb2
  go_wp2_with fail
  simp [bodyPost, results, Tryz.results89, go_sem, *]
  exact HB.out
theorem infoRec : (Tryz.prog.info? 109).map (fun i => (i.zero, i.size, i.bytes)) = some (some (.agg #[.int .i64 0, .int .i64 0, .int .u8 0, .int .i64 0, .int .i64 0, .int .i64 0, .int .i64 0, .int .i64 0]), 8, 64) := by kernel_rfl
theorem grown_of_below {v w : World} (h : Below v.heap.size v w) : v.grownBy w none := ⟨h.os, h.tape, h.output, h.size, fun i hi _ => h.block i hi⟩
def rcells (now : Int) : List Value := [.int .i64 4, .int .i64 0, .int .u8 0, .int .i64 0, .int .i64 0, .int .i64 now, .int .i64 0, .int .i64 0]
theorem rcells_one (now : Int) : ∀ u ∈ rcells now, u.oneCell' = true := by
  intro u hu
  simp only [rcells, List.mem_cons, List.not_mem_nil, or_false] at hu
  rcases hu with rfl | rfl | rfl | rfl | rfl | rfl | rfl | rfl <;> rfl
theorem new_rec {w : World} {now : Int} {t : TypeId} {j : Nat} {u : Value} (h : (rcells now)[j]? = some u) :
    (w.drew.alloc (.cells #[.int .i64 4, .int .i64 0, .int .u8 0, .int .i64 0, .int .i64 0, .int .i64 now, .int .i64 0, .int .i64 0] t)).cell? ((⟨w.heap.size, 0, none⟩ : Addr).add j) = some u := by
  have e : ((⟨w.heap.size, 0, none⟩ : Addr).add j) = ⟨w.heap.size, j, none⟩ := by unfold Addr.add; split <;> simp_all
  rw [e]
  have k := World.cell?_alloc_new (w := w.drew) #[.int .i64 4, .int .i64 0, .int .u8 0, .int .i64 0, .int .i64 0, .int .i64 now, .int .i64 0, .int .i64 0] t j
  rw [show w.drew.heap.size = w.heap.size from rfl] at k
  rw [k]
  simpa [rcells] using h
set_option maxHeartbeats 4000000 in
theorem do_tick (g bm : Nat) (now : Int) (w : World) (hg : w.cell? ⟨g, 0, none⟩ = some (.map (some bm))) (hl : w.cell? ⟨g, 1, none⟩ = some (.slice none 0 0)) (hfz : w.frozen? ⟨g, 1, none⟩ = false) (ho : MapV.Own Tryz.prog .i64 3 w bm MapV.none_ 0) :
    Calls Tryz.prog 67 #[.pointer (some ⟨g, 0, none⟩), .agg #[.int .i64 4, .int .i64 0, .int .u8 0, .int .i64 0, .int .i64 0, .int .i64 now, .int .i64 0, .int .i64 0]] w fun r w' => r = .returned (.tuple #[.int .i64 0, .int .i64 0]) ∧ w.grownBy w' (some g) := by
  have hgl : g < w.heap.size := Flat.cell_lt hg
  obtain ⟨i0, hi, hz0, hz1, hz2⟩ := info_parts infoRec
  have HI := Lib.hid hi
  have HZ0 := Lib.hid hz0
  have HZ1 := Lib.hid hz1
  have HZ2 := Lib.hid hz2
  clear hi hz0 hz1 hz2
  go_enter Tryz.func67, Tryz.ntmps67
  go_wp2_with fail
  generalize hv1 : World.alloc w _ = v1
  obtain ⟨hb1, hz1, hc1⟩ := alloc_facts hv1
  have hg1 := (hb1.cell (p := ⟨g, 0, none⟩) hgl).trans hg
  have hl1 := (hb1.cell (p := ⟨g, 1, none⟩) hgl).trans hl
  have hf1 := (hb1.frozen (p := ⟨g, 1, none⟩) hgl).trans hfz
  have ho1 := ho.below hb1 ho.lt
  have q0 := hc1 0
  have q1 := hc1 1
  have q2 := hc1 2
  have q3 := hc1 3
  have q4 := hc1 4
  have q5 := hc1 5
  have q6 := hc1 6
  have q7 := hc1 7
  have HB1 := Lib.hid hb1
  have HST := Lib.hid (step_tick g bm now v1 hg1 ho1)
  clear hv1 hc1 hb1 ho ho1
  generalize hgb : w.heap.size = gb at *
  refine (chair_good g bm v1 hg1).mono ?_
  rintro r v1 ⟨rfl, rfl⟩
  go_wp2_with fail
  have hg1l : g < v1.heap.size := by omega
  refine HST.out.mono ?_
  rintro r v2 ⟨rfl, hb2⟩
  have hg2 := (hb2.cell (p := ⟨g, 0, none⟩) hg1l).trans hg1
  have hl2 := (hb2.cell (p := ⟨g, 1, none⟩) hg1l).trans hl1
  have hf2 := (hb2.frozen (p := ⟨g, 1, none⟩) hg1l).trans hf1
  have m0 := (hb2.cell (p := ⟨gb, 0, none⟩) hz1).trans q0
  have m1 := (hb2.cell (p := ⟨gb, 1, none⟩) hz1).trans q1
  have m2 := (hb2.cell (p := ⟨gb, 2, none⟩) hz1).trans q2
  have m3 := (hb2.cell (p := ⟨gb, 3, none⟩) hz1).trans q3
  have m4 := (hb2.cell (p := ⟨gb, 4, none⟩) hz1).trans q4
  have m5 := (hb2.cell (p := ⟨gb, 5, none⟩) hz1).trans q5
  have m6 := (hb2.cell (p := ⟨gb, 6, none⟩) hz1).trans q6
  have m7 := (hb2.cell (p := ⟨gb, 7, none⟩) hz1).trans q7
  have hgb2 : gb < v2.heap.size := Nat.lt_of_lt_of_le hz1 hb2.size
  have hg3 : g < v2.heap.size := by omega
  have HB2 := Lib.hid (HB1.out.trans (hb2.mono (by omega)))
  clear hb2 hg1 hl1 hf1 q0 q1 q2 q3 q4 q5 q6 q7 HB1 HST
  go_wp2_with fail
  refine start_ (n := 11) (S := fun w' => Below v2.heap.size v2 w' ∧ w'.cell? ⟨g, 1, none⟩ = some (.slice none 0 0) ∧ w'.cell? ⟨gb, 0, none⟩ = some (.int .i64 4) ∧ w'.cell? ⟨gb, 1, none⟩ = some (.int .i64 0) ∧ w'.cell? ⟨gb, 2, none⟩ = some (.int .u8 0) ∧ w'.cell? ⟨gb, 3, none⟩ = some (.int .i64 0) ∧ w'.cell? ⟨gb, 4, none⟩ = some (.int .i64 0) ∧ w'.cell? ⟨gb, 5, none⟩ = some (.int .i64 now) ∧ w'.cell? ⟨gb, 6, none⟩ = some (.int .i64 0) ∧ w'.cell? ⟨gb, 7, none⟩ = some (.int .i64 0)) (ds := [7, 10]) #[false, false, false, false, false, false, false, false, false, false, false] (by kernel_rfl) rfl rfl ⟨(still_drew v2).1, hl2, m0, m1, m2, m3, m4, m5, m6, m7⟩ (fun hHeld => ?_)
  refine pure_ (i := 0) (N := some 40) (v := ?_) (a' := ?_) #[true, false, false, false, false, false, false, false, false, false, false] rfl rfl (by kernel_rfl) (fun _ _ _ h => h) (Or.inl ⟨by rfl, ?_⟩) ?_ ?_
  rotate_left
  · intro w'
    go_simp
    with_reducible rfl
  rotate_left
  · simp only [Act.put, List.setIfInBounds_toArray, List.set_cons_zero, List.set_cons_succ, i64_w, i32_w]
    rfl
  refine pure_ (i := 1) (N := some 41) (v := ?_) (a' := ?_) #[true, true, false, false, false, false, false, false, false, false, false] rfl rfl (by kernel_rfl) (fun _ _ _ h => h) (Or.inl ⟨by rfl, ?_⟩) ?_ ?_
  rotate_left
  · intro w'
    go_simp
    with_reducible rfl
  rotate_left
  · simp only [Act.put, List.setIfInBounds_toArray, List.set_cons_zero, List.set_cons_succ, i64_w, i32_w]
    rfl
  refine pure_ (i := 2) (N := some 42) (v := ?_) (a' := ?_) #[true, true, true, false, false, false, false, false, false, false, false] rfl rfl (by kernel_rfl) (fun _ _ _ h => h) (Or.inl ⟨by rfl, ?_⟩) ?_ ?_
  rotate_left
  · intro w'
    go_simp
    with_reducible rfl
  rotate_left
  · simp only [Act.put, List.setIfInBounds_toArray, List.set_cons_zero, List.set_cons_succ, i64_w, i32_w]
    rfl
  refine pure_ (i := 3) (N := some 43) (v := ?_) (a' := ?_) #[true, true, true, true, false, false, false, false, false, false, false] rfl rfl (by kernel_rfl) (fun _ _ _ h => h) (Or.inl ⟨by rfl, ?_⟩) ?_ ?_
  rotate_left
  · intro w'
    go_simp
    with_reducible rfl
  rotate_left
  · simp only [Act.put, List.setIfInBounds_toArray, List.set_cons_zero, List.set_cons_succ, i64_w, i32_w]
    rfl
  refine take_ (i := 4) (N := some 44) (v := ?_) (a' := ?_) #[true, true, true, true, true, false, false, false, false, false, false] rfl rfl (by kernel_rfl) (fun _ _ _ h => h) (Or.inl ⟨by rfl, ?_⟩) hHeld ?_ ?_
  rotate_left
  · rintro w' ⟨s0, s1, s2, s3, s4, s5, s6, s7, s8, s9⟩
    go_simp
    with_reducible rfl
  rotate_left
  · simp only [Act.put, List.setIfInBounds_toArray, List.set_cons_zero, List.set_cons_succ, i64_w, i32_w]
    rfl
  refine take_ (i := 5) (N := some 45) (v := ?_) (a' := ?_) #[true, true, true, true, true, true, false, false, false, false, false] rfl rfl (by kernel_rfl) (fun _ _ _ h => h) (Or.inl ⟨by rfl, ?_⟩) hHeld ?_ ?_
  rotate_left
  · rintro w' ⟨s0, s1, s2, s3, s4, s5, s6, s7, s8, s9⟩
    go_simp
    with_reducible rfl
  rotate_left
  · simp only [Act.put, List.setIfInBounds_toArray, List.set_cons_zero, List.set_cons_succ, i64_w, i32_w]
    rfl
  refine one_ (i := 6) (N := some 46) #[true, true, true, true, true, true, true, false, false, false, false] rfl rfl (by kernel_rfl) (by decide) (fun K hK => ?_)
  refine value_ (w1 := ?_) (v := ?_) (by rfl) rfl ?_ ?_
  rotate_left 2
  · go_simp
    constructor
    · rfl
    · rfl
  refine hK.out _ _ ⟨bw_alloc hHeld.1, ((bw_alloc hHeld.1).cell (p := ⟨g, 1, none⟩) hg3).trans hl2, ((bw_alloc hHeld.1).cell (p := ⟨gb, 0, none⟩) hgb2).trans m0, ((bw_alloc hHeld.1).cell (p := ⟨gb, 1, none⟩) hgb2).trans m1, ((bw_alloc hHeld.1).cell (p := ⟨gb, 2, none⟩) hgb2).trans m2, ((bw_alloc hHeld.1).cell (p := ⟨gb, 3, none⟩) hgb2).trans m3, ((bw_alloc hHeld.1).cell (p := ⟨gb, 4, none⟩) hgb2).trans m4, ((bw_alloc hHeld.1).cell (p := ⟨gb, 5, none⟩) hgb2).trans m5, ((bw_alloc hHeld.1).cell (p := ⟨gb, 6, none⟩) hgb2).trans m6, ((bw_alloc hHeld.1).cell (p := ⟨gb, 7, none⟩) hgb2).trans m7⟩ (fun hHeld => ?_)
  clear hK K
  refine norm_ (a' := ?_) ?_ ?_
  rotate_left
  · show Act.put _ (some 46) _ = _
    simp only [Act.put, List.setIfInBounds_toArray, List.set_cons_zero, List.set_cons_succ, i64_w, i32_w]
    rfl
  refine last_ (i := 7) (N := some 47) #[true, true, true, true, true, true, true, true, false, false, false] rfl rfl (by kernel_rfl) (by decide) (fun K hK => ?_)
  refine append_row_ (by rfl) rfl (.tmp 44) (.tmp 46) 59 rfl v2.heap.size 109 i0 _ 8 64 Tryz.underlying59 HI.out HZ0.out HZ1.out HZ2.out rfl (by decide) (.slice none 0 0) 0 [] (by rfl) (World.ownsRow_nil _ _ _ _) ⟨v2.heap.size, 0, none⟩ 1 1 (rcells now) (by rfl) rfl (fun j u hu => new_rec hu) (rcells_one now) (by unfold maxLen; omega) (by omega) hHeld.1.size ?_
  intro v8 w8 hob8 hg8
  have hB8 : Below v2.heap.size v2 w8 := hHeld.1.grown hg8 hHeld.1.size (fun j hj => by simp [Value.ownBlock] at hj)
  have hu8 := (hB8.cell (p := ⟨g, 1, none⟩) hg3).trans hl2
  have hf8 := (hB8.frozen (p := ⟨g, 1, none⟩) hg3).trans hf2
  obtain ⟨a8, c8, rfl⟩ := Script.row_slice hob8
  have HB8 := Lib.hid hB8
  clear hob8 hg8 hB8
  refine hK.out _ _ ?_
  clear hK K
  refine norm_ (a' := ?_) ?_ ?_
  rotate_left
  · show Act.put _ (some 47) _ = _
    simp only [Act.put, List.setIfInBounds_toArray, List.set_cons_zero, List.set_cons_succ, i64_w, i32_w]
    rfl
  refine pure_ (i := 8) (N := some 48) (v := ?_) (a' := ?_) #[true, true, true, true, true, true, true, true, true, false, false] rfl rfl (by kernel_rfl) (fun _ _ _ h => h) (Or.inl ⟨by rfl, ?_⟩) ?_ ?_
  rotate_left
  · intro w'
    go_simp
    with_reducible rfl
  rotate_left
  · simp only [Act.put, List.setIfInBounds_toArray, List.set_cons_zero, List.set_cons_succ, i64_w, i32_w]
    rfl
  refine pure_ (i := 9) (N := some 49) (v := ?_) (a' := ?_) #[true, true, true, true, true, true, true, true, true, true, false] rfl rfl (by kernel_rfl) (fun _ _ _ h => h) (Or.inl ⟨by rfl, ?_⟩) ?_ ?_
  rotate_left
  · intro w'
    go_simp
    with_reducible rfl
  rotate_left
  · simp only [Act.put, List.setIfInBounds_toArray, List.set_cons_zero, List.set_cons_succ, i64_w, i32_w]
    rfl
  refine last_ (i := 10) (N := none) #[true, true, true, true, true, true, true, true, true, true, true] rfl rfl (by kernel_rfl) (by decide) (fun K hK => ?_)
  refine skip_ (w1 := ?_) (by rfl) rfl ?_ ?_
  rotate_left
  · go_simp
    rfl
  refine hK.out _ _ ?_
  clear hK K
  refine done_ (by kernel_rfl) ?_

  go_wp2_with fail
  simp [bodyPost, results, Tryz.results67, go_sem, *]
  have hB := HB2.out.trans (HB8.out.mono (by omega))
  rw [← hgb] at hB
  exact ((grown_of_below hB).but (some g)).trans (Script.grown_set w8 ⟨g, 1, none⟩ _)
end Go.Proofs.YtammpdifkpfafaaGreatDoor.News
