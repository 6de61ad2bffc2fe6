/- CellsNobody: cells that no call made answer an error, or nothing. -/
import Derived.Test.YtcenfolmajegeaaCellNobody
namespace Go.Proofs.Ytcenfolmajegeaa.LCellsNobody
open Go Go.RowKit Go.Maps Go.Shelf Flat SeqOver CellIter CellNobody Go.Proofs.Ytcenfolmajegeaa.CellAlive
set_option linter.unusedSimpArgs false
set_option linter.unusedVariables false
set_option maxRecDepth 100000
attribute [local go_sem] Oper.semAt_some
theorem fin_bool {fn : Func} {p : Tmp} (h : fn.results = #[.cell p 4]) (tmps : Array Value) (w : World) (b : Nat) (x : Bool) (hp : tmps.getD p undef = .pointer (some ⟨b, 0, none⟩)) (hc : w.cell? ⟨b, 0, none⟩ = some (.bool x)) :
    (results fn tmps).run Try.prog w = .ok (.bool x) w := by
  have hp' : tmps[p]?.getD undef = .pointer (some ⟨b, 0, none⟩) := by simpa using hp
  simp [results, h, hp', asAddr, go_sem, hc]
theorem put_cell {w : World} {l b o : Nat} {x : Obj} (hb : b < w.heap.size) (h : b ≠ l) : (w.putObj l x).cell? ⟨b, o, none⟩ = w.cell? ⟨b, o, none⟩ :=
  (grownBy_putObj' w l x).cell_far ⟨b, o, none⟩ hb (fun e => h (Option.some.inj e))
theorem put_obj {w : World} {l D : Nat} {x y : Obj} (hk : w.heap[D]? = some y) (h : D ≠ l) : (w.putObj l x).heap[D]? = some y := (World.putObj_heap_other h).trans hk
set_option maxHeartbeats 8000000 in
theorem walk (a0 : ByteArray) (w : World) (w0 : a0.size ≤ maxLen) :
    Calls Try.prog 8 #[.string a0] w fun e w' => e = .returned (.bool true) ∧ Below w.heap.size w w' := by
  refine (callsIn_wide (n := 8)).1 ?_
  refine callsIn_of_wp_marks Try.func8 rfl trivial ?_ rfl
  simp only [Try.ntmps8, List.size_toArray, List.length_cons, List.length_nil, Nat.reduceAdd, Nat.reduceSub, Array.replicate_succ, Array.replicate_zero, List.push_toArray, List.append_toArray, List.nil_append, List.cons_append]
  have hfA : Fence.wide.fn 9 := trivial
  have hf1 : Fence.wide.fn 26 := trivial
  have hf2 : Fence.wide.fn 27 := trivial
  have hf3 : Fence.wide.fn 28 := trivial
  have hf4 : Fence.wide.fn 29 := trivial
  have hf5 : Fence.wide.fn 30 := trivial
  have hf6 : Fence.wide.fn 31 := trivial
  have hf7 : Fence.wide.fn 32 := trivial
  gi_wp2_with fail
  generalize hv1 : World.alloc w _ = v1
  obtain ⟨hb1, hz1, hc1⟩ := alloc_facts hv1
  have hr1 : v1.frozen? ⟨w.heap.size, 0, none⟩ = false := by rw [← hv1]; exact World.frozen?_alloc_at _ _ _ _ rfl
  have hc1 := hc1 0
  clear hv1
  refine (callsIn_wide.2 (alive_any v1)).mono ?_
  rintro e v2 ⟨rfl, hb2⟩
  have hc2 := (hb2.cell (p := ⟨w.heap.size, 0, none⟩) hz1).trans hc1
  have hr2 := (hb2.frozen (p := ⟨w.heap.size, 0, none⟩) hz1).trans hr1
  have hB2 := hb1.trans (hb2.mono (Nat.le_of_lt hz1))
  have hz2 := Nat.lt_of_lt_of_le hz1 hb2.size
  clear hb1 hb2 hc1 hr1 hz1
  by_cases hl : (1000 : Int) < (a0.size : Int)
  · gi_wp2_with fail
    exact ⟨_, fin_bool rfl _ _ w.heap.size true rfl (World.cell?_setCell_same _ _ _ hc2), rfl, hB2.setCell (p := ⟨w.heap.size, 0, none⟩) (Nat.le_refl _) _⟩
  · gi_wp2_with fail
    generalize hv3 : World.alloc (World.alloc v2 _) _ = v3
    have hb3 : Below v2.heap.size v2 v3 := by rw [← hv3]; exact ((Below.refl _ v2).alloc (Nat.le_refl _) _).alloc (by simp) _
    have hs3 : v3.heap.size = v2.heap.size + 2 := by rw [← hv3]; simp
    have cz : v3.cell? ⟨v2.heap.size, 0, none⟩ = some (.int .i64 0) := by rw [← hv3]; simp [go_sem]
    have s0 : v3.cell? ⟨v2.heap.size + 1, 0, none⟩ = some (.pointer none) := by rw [← hv3]; simp [go_sem]
    have s1 : v3.cell? ⟨v2.heap.size + 1, 1, none⟩ = some (.pointer (some ⟨v2.heap.size, 0, none⟩)) := by rw [← hv3]; simp [go_sem]
    have hc3 := (hb3.cell (p := ⟨w.heap.size, 0, none⟩) hz2).trans hc2
    have hr3 := (hb3.frozen (p := ⟨w.heap.size, 0, none⟩) hz2).trans hr2
    have hB3 := hB2.trans (hb3.mono (Nat.le_of_lt hz2))
    have ng0 : NotGood v3 none := .inl rfl
    have ng1 : NotGood v3 (some ⟨v2.heap.size, 0, none⟩) := .inr ⟨_, rfl, cz⟩
    clear hv3 hc2 hr2 hB2 cz
    generalize v2.heap.size = gz at *
    refine wpIn_loop_rounds 3 ?_
    rw [roundsIn_succ]

    gi_wp2_with fail
    refine (callsIn_wide.2 (get_n none a0 v3 ng0)).mono ?_
    rintro e v3 ⟨rfl, rfl⟩
    gi_wp2_with fail
    refine (callsIn_wide.2 (all_n none v3 ng0)).mono ?_
    rintro e v4 ⟨gv4, rfl, hcv4, hbv4⟩
    gi_wp2_with fail
    refine range_over (n := 8) rfl (by omega) (gf := 46) (lb := #[.pointer (some ⟨gv4, 0, none⟩)]) rfl trivial (enters_of Try.func46 (by kernel_rfl) rfl)
      (allS_none 7 (by omega) gv4 v4 hcv4) (fun _ _ => trivial) (fun _ _ _ _ _ => trivial) (Below.refl _ _) (fun _ => rfl)
      (fun _ row W => row = none ∧ Below v4.heap.size v4 W) (fun _ _ _ _ => False) (Abs.and (abs_pure _ _) (abs_below (Nat.le_refl _) (Nat.le_refl _))) (fun _ => abs_false _) (fun _ row W h r e => by rw [h.1] at e; cases e) none (fun r e => by cases e) ⟨rfl, Below.refl _ _⟩
      (fun _ _ _ => True) (fun _ _ _ _ _ _ _ _ => trivial) (fun _ pre _ _ _ _ hl => absurd hl (Nat.not_lt_zero _)) (fun _ pre _ _ _ _ _ _ _ hl => absurd hl (Nat.not_lt_zero _)) ?_ (fun _ _ _ _ _ _ h => h.elim)
    rintro d0 xs row x0 hd0 _ ⟨rfl, hi0⟩ hne hk0
    clear hne
    have hld0 := (Array.getElem?_eq_some_iff.1 hk0).1
    have hb3 := hbv4.trans (hi0.mono hbv4.size)
    have ng0 := ng0.below hb3
    have ng1 := ng1.below hb3
    have hsz := Flat.cell_lt s0
    have s0 := (hb3.cell (p := ⟨gz + 1, 0, none⟩) hsz).trans s0
    have s1 := (hb3.cell (p := ⟨gz + 1, 1, none⟩) hsz).trans s1
    have hzc := Flat.cell_lt hc3
    have hc3 := (hb3.cell (p := ⟨w.heap.size, 0, none⟩) hzc).trans hc3
    have hr3 := (hb3.frozen (p := ⟨w.heap.size, 0, none⟩) hzc).trans hr3
    have hB3 := hB3.trans (hb3.mono hB3.size)
    
    gi_wp2_with fail
    refine (callsIn_wide.2 (set_n none a0 1 x0 ng0)).mono ?_
    rintro e x0 ⟨rfl, rfl⟩
    gi_wp2_with fail
    refine (callsIn_wide.2 (drop_n none a0 x0 ng0)).mono ?_
    rintro e x0 ⟨rfl, rfl⟩
    gi_wp2_with fail
    refine (callsIn_wide.2 (sync_n none x0 ng0)).mono ?_
    rintro e x0 ⟨rfl, rfl⟩
    gi_wp2_with fail
    refine (callsIn_wide.2 (crash_n none x0 ng0)).mono ?_
    rintro e x0 ⟨rfl, rfl⟩
    gi_wp2_with fail
    refine (callsIn_wide.2 (len_n none x0 ng0)).mono ?_
    rintro e x0 ⟨rfl, rfl⟩
    gi_wp2_with fail
    rw [roundsIn_succ]

    gi_wp2_with fail
    refine (callsIn_wide.2 (get_n (some ⟨gz, 0, none⟩) a0 x0 ng1)).mono ?_
    rintro e x0 ⟨rfl, rfl⟩
    gi_wp2_with fail
    refine (callsIn_wide.2 (all_n (some ⟨gz, 0, none⟩) x0 ng1)).mono ?_
    rintro e v14 ⟨gv14, rfl, hcv14, hbv14⟩
    gi_wp2_with fail
    refine range_over (n := 8) rfl (by omega) (gf := 46) (lb := #[.pointer (some ⟨gv14, 0, none⟩)]) rfl trivial (enters_of Try.func46 (by kernel_rfl) rfl)
      (allS_none 7 (by omega) gv14 v14 hcv14) (fun _ _ => trivial) (fun _ _ _ _ _ => trivial) (Below.refl _ _) (fun _ => rfl)
      (fun _ row W => row = none ∧ Below v14.heap.size v14 W) (fun _ _ _ _ => False) (Abs.and (abs_pure _ _) (abs_below (Nat.le_refl _) (Nat.le_refl _))) (fun _ => abs_false _) (fun _ row W h r e => by rw [h.1] at e; cases e) none (fun r e => by cases e) ⟨rfl, Below.refl _ _⟩
      (fun _ _ _ => True) (fun _ _ _ _ _ _ _ _ => trivial) (fun _ pre _ _ _ _ hl => absurd hl (Nat.not_lt_zero _)) (fun _ pre _ _ _ _ _ _ _ hl => absurd hl (Nat.not_lt_zero _)) ?_ (fun _ _ _ _ _ _ h => h.elim)
    rintro d1 xs row x1 hd1 _ ⟨rfl, hi1⟩ hne hk1
    clear hne
    have hld1 := (Array.getElem?_eq_some_iff.1 hk1).1
    have hb3 := hbv14.trans (hi1.mono hbv14.size)
    have ng0 := ng0.below hb3
    have ng1 := ng1.below hb3
    have hsz := Flat.cell_lt s0
    have s0 := (hb3.cell (p := ⟨gz + 1, 0, none⟩) hsz).trans s0
    have s1 := (hb3.cell (p := ⟨gz + 1, 1, none⟩) hsz).trans s1
    have hzc := Flat.cell_lt hc3
    have hc3 := (hb3.cell (p := ⟨w.heap.size, 0, none⟩) hzc).trans hc3
    have hr3 := (hb3.frozen (p := ⟨w.heap.size, 0, none⟩) hzc).trans hr3
    have hB3 := hB3.trans (hb3.mono hB3.size)
    have hk0 := (hb3.block d0 hld0).trans hk0
    gi_wp2_with fail
    refine (callsIn_wide.2 (set_n (some ⟨gz, 0, none⟩) a0 1 x1 ng1)).mono ?_
    rintro e x1 ⟨rfl, rfl⟩
    gi_wp2_with fail
    refine (callsIn_wide.2 (drop_n (some ⟨gz, 0, none⟩) a0 x1 ng1)).mono ?_
    rintro e x1 ⟨rfl, rfl⟩
    gi_wp2_with fail
    refine (callsIn_wide.2 (sync_n (some ⟨gz, 0, none⟩) x1 ng1)).mono ?_
    rintro e x1 ⟨rfl, rfl⟩
    gi_wp2_with fail
    refine (callsIn_wide.2 (crash_n (some ⟨gz, 0, none⟩) x1 ng1)).mono ?_
    rintro e x1 ⟨rfl, rfl⟩
    gi_wp2_with fail
    refine (callsIn_wide.2 (len_n (some ⟨gz, 0, none⟩) x1 ng1)).mono ?_
    rintro e x1 ⟨rfl, rfl⟩
    gi_wp2_with fail
    rw [roundsIn_succ]
    gi_wp2_with fail
    have e10 : d0 ≠ d1 := by have := hbv14.size; omega
    have hz1 := Flat.cell_lt hc3
    have w1 : w.heap.size ≠ d1 := by have := hB3.size; have := hbv14.size; have := hbv4.size; have := hi0.size; omega
    have w2 : w.heap.size ≠ d0 := by have := hbv4.size; omega
    have wl1 : w.heap.size ≤ d1 := by have := hbv14.size; have := hbv4.size; have := hi0.size; omega
    have wl2 : w.heap.size ≤ d0 := by have := hbv4.size; omega
    obtain ⟨Y, hY⟩ : ∃ Y, x1.setCell ⟨w.heap.size, 0, none⟩ (.bool true) = Y := ⟨_, rfl⟩
    have y1 : Y.heap[d1]? = some (.deferred (some [])) := by rw [← hY]; exact (Below.heap_setCell _ _ _ _ (fun e => w1 e.symm)).trans hk1
    have y0 : Y.heap[d0]? = some (.deferred (some [])) := by rw [← hY]; exact (Below.heap_setCell _ _ _ _ (fun e => w2 e.symm)).trans hk0
    have yc : Y.cell? ⟨w.heap.size, 0, none⟩ = some (.bool true) := by rw [← hY]; exact World.cell?_setCell_same _ _ _ hc3
    have yB : Below w.heap.size w Y := by rw [← hY]; exact hB3.setCell (p := ⟨w.heap.size, 0, none⟩) (Nat.le_refl _) _
    rw [hY]
    refine ⟨by simp, .inl ⟨_, _, rfl, run_takeDeferred y1, ⟨by simp, .inl ⟨_, _, rfl, run_takeDeferred (put_obj y0 e10), ?_⟩⟩⟩⟩
    have ylt := Flat.cell_lt yc
    refine ⟨_, fin_bool rfl _ _ w.heap.size true rfl ((put_cell (by simpa using ylt) w2).trans ((put_cell ylt w1).trans yc)), rfl, ?_⟩
    exact (yB.grown (grownBy_putObj' Y d1 _) yB.size (fun k e => by cases e; exact wl1)).grown (grownBy_putObj' _ d0 _) (by simpa using yB.size) (fun k e => by cases e; exact wl2)
end Go.Proofs.Ytcenfolmajegeaa.LCellsNobody
