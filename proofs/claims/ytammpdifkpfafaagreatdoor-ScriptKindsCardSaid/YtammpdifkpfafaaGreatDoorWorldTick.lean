/- The world's tick where its chair has no deals. -/
import Derived.Test.YtammpdifkpfafaaGreatDoorChairDo
import Derived.Test.YtammpdifkpfafaaGreatDoorWorldSmall
namespace Go.Proofs.YtammpdifkpfafaaGreatDoor.News
open Go.RowKit Flat Go.Proofs.YtammpdifkpfafaaGreatDoorW.PrintLast
set_option linter.unusedSimpArgs false
set_option linter.unusedVariables false
set_option maxRecDepth 100000

/-- A world at block g, its chair at block gc with no deals (the map of block bm) and no log, at time t. -/
def WorldAt (w : World) (g gc bm : Nat) (t : Int) : Prop :=
  w.cell? ⟨g, 1, none⟩ = some (.pointer (some ⟨gc, 0, none⟩)) ∧ w.cell? ⟨g, 62, none⟩ = some (.int .i64 t) ∧ w.frozen? ⟨g, 62, none⟩ = false ∧ g ≠ gc ∧ w.cell? ⟨gc, 0, none⟩ = some (.map (some bm)) ∧ w.cell? ⟨gc, 1, none⟩ = some (.slice none 0 0) ∧ w.frozen? ⟨gc, 1, none⟩ = false ∧ MapV.Own Tryz.prog .i64 3 w bm MapV.none_ 0
theorem WorldAt.below {w w' : World} {g gc bm : Nat} {t : Int} (h : WorldAt w g gc bm t) (hb : Below w.heap.size w w') : WorldAt w' g gc bm t := by
  obtain ⟨h1, h2, h3, h4, h5, h6, h7, h8⟩ := h
  have l1 := Flat.cell_lt h1
  have l2 := Flat.cell_lt h5
  exact ⟨(hb.cell (p := ⟨g, 1, none⟩) l1).trans h1, (hb.cell (p := ⟨g, 62, none⟩) l1).trans h2, (hb.frozen (p := ⟨g, 62, none⟩) l1).trans h3, h4, (hb.cell (p := ⟨gc, 0, none⟩) l2).trans h5, (hb.cell (p := ⟨gc, 1, none⟩) l2).trans h6, (hb.frozen (p := ⟨gc, 1, none⟩) l2).trans h7, h8.below hb h8.lt⟩
/-- Of what was there nothing has turned but the blocks g and gc. -/
structure Beside (g gc : Nat) (w w' : World) : Prop where
  os : w'.os = w.os
  tape : w'.tape = w.tape
  output : w'.output = w.output
  size : w.heap.size ≤ w'.heap.size
  block : ∀ i, i < w.heap.size → i ≠ g → i ≠ gc → w'.heap[i]? = w.heap[i]?
theorem Beside.trans {g gc : Nat} {a b c : World} (h : Beside g gc a b) (k : Beside g gc b c) : Beside g gc a c :=
  ⟨k.os.trans h.os, k.tape.trans h.tape, k.output.trans h.output, Nat.le_trans h.size k.size, fun i hi h1 h2 => (k.block i (Nat.lt_of_lt_of_le hi h.size) h1 h2).trans (h.block i hi h1 h2)⟩
theorem Beside.of_below {g gc : Nat} {a b : World} (h : Below a.heap.size a b) : Beside g gc a b := ⟨h.os, h.tape, h.output, h.size, fun i hi _ _ => h.block i hi⟩
theorem Beside.of_grown {g gc x : Nat} {a b : World} (h : a.grownBy b (some x)) (hx : x = g ∨ x = gc) : Beside g gc a b :=
  ⟨h.os, h.tape, h.output, h.size, fun i hi h1 h2 => h.block i hi (fun e => by cases e; rcases hx with rfl | rfl <;> simp_all)⟩
theorem Beside.below {g gc B : Nat} {a b : World} (h : Beside g gc a b) (h1 : B ≤ g) (h2 : B ≤ gc) (h3 : B ≤ a.heap.size) : Below B a b :=
  ⟨h.os, h.tape, h.output, h.size, fun i hi => h.block i (by omega) (by omega) (by omega)⟩
theorem Beside.cell {g gc b o : Nat} {a a' : World} (h : Beside g gc a a') (hb : b < a.heap.size) (h1 : b ≠ g) (h2 : b ≠ gc) : a'.cell? ⟨b, o, none⟩ = a.cell? ⟨b, o, none⟩ := by
  unfold World.cell?
  simp only [h.block b hb h1 h2]
theorem Beside.frozen {g gc b o : Nat} {a a' : World} (h : Beside g gc a a') (hb : b < a.heap.size) (h1 : b ≠ g) (h2 : b ≠ gc) : a'.frozen? ⟨b, o, none⟩ = a.frozen? ⟨b, o, none⟩ := by
  unfold World.frozen?
  simp only [h.block b hb h1 h2]
def TickPost (w : World) (g gc : Nat) (t : Int) (r : Ending) (w' : World) : Prop :=
  r = .returned (.int .i64 0) ∧ w'.cell? ⟨g, 1, none⟩ = some (.pointer (some ⟨gc, 0, none⟩)) ∧ w'.cell? ⟨g, 62, none⟩ = some (.int .i64 t) ∧ Beside g gc w w'
set_option maxHeartbeats 4000000 in
theorem world_tick (g gc bm : Nat) (t : Int) (what tx a b kind key n : Int) (hn0 : 0 ≤ n) (hn1 : n ≤ 1048576) (ht0 : 0 ≤ t) (ht1 : t + n ≤ 1099511627776) (w : World) (h : WorldAt w g gc bm t) :
    Calls Tryz.prog 57 #[.pointer (some ⟨g, 0, none⟩), .agg #[.int .i64 what, .int .i64 tx, .int .u8 a, .int .u8 b, .int .i64 kind, .int .u8 key, .int .i64 n]] w (TickPost w g gc (t + n)) := by
  obtain ⟨h1, h2, h3, hne, h5, h6, h7, ho⟩ := h
  have hgl : g < w.heap.size := Flat.cell_lt h1
  have hcl : gc < w.heap.size := Flat.cell_lt h5
  have hI0 : ¬ n < 0 := by omega
  have hI1 : ¬ (1048576 : Int) < n := by omega
  have hI2 : ¬ (1099511627776 : Int) < t + n := by omega
  have hwr : wrap64 (t + n) = t + n := by unfold wrap64; omega
  have HDO := Lib.hid (fun W a1 a2 a3 a4 => do_tick gc bm (t + n) W a1 a2 a3 a4)
  go_enter Tryz.func57, Tryz.ntmps57
  go_wp2_with fail
  generalize hv1 : World.alloc w _ = v1
  obtain ⟨hb1, hz1, hc1⟩ := alloc_facts hv1
  have g1 := (hb1.cell (p := ⟨g, 1, none⟩) hgl).trans h1
  have g2 := (hb1.cell (p := ⟨g, 62, none⟩) hgl).trans h2
  have g3 := (hb1.frozen (p := ⟨g, 62, none⟩) hgl).trans h3
  have c1 := (hb1.cell (p := ⟨gc, 0, none⟩) hcl).trans h5
  have c2 := (hb1.cell (p := ⟨gc, 1, none⟩) hcl).trans h6
  have c3 := (hb1.frozen (p := ⟨gc, 1, none⟩) hcl).trans h7
  have ho1 := ho.below hb1 ho.lt
  have q6 := hc1 6
  have hgb1 : g < v1.heap.size := by omega
  have hgc1 : gc < v1.heap.size := by omega
  have HB1 := Lib.hid hb1
  have HO1 := Lib.hid ho1
  clear hv1 hc1 hb1 ho ho1 h1 h2 h3 h5 h6 h7
  generalize hgb : w.heap.size = gb at *
  refine start_ (n := 9) (S := fun w' => Below v1.heap.size v1 w' ∧ w'.cell? ⟨g, 62, none⟩ = some (.int .i64 t) ∧ w'.cell? ⟨gb, 6, none⟩ = some (.int .i64 n)) (ds := []) #[false, false, false, false, false, false, false, false, false] (by kernel_rfl) rfl rfl ⟨(still_drew v1).1, g2, q6⟩ (fun hHeld => ?_)
  refine pure_ (i := 0) (N := some 17) (v := ?_) (a' := ?_) #[true, false, false, false, false, false, false, false, false] rfl rfl (by kernel_rfl) (fun _ _ _ h => h) (Or.inl ⟨by rfl, ?_⟩) ?_ ?_
  rotate_left
  · intro w'
    go_simp
    with_reducible rfl
  rotate_left
  · simp only [Act.put, List.setIfInBounds_toArray, List.set_cons_zero, List.set_cons_succ, i64_w, i32_w]
    rfl
  refine pure_ (i := 1) (N := some 18) (v := ?_) (a' := ?_) #[true, true, false, false, false, false, false, false, false] rfl rfl (by kernel_rfl) (fun _ _ _ h => h) (Or.inl ⟨by rfl, ?_⟩) ?_ ?_
  rotate_left
  · intro w'
    go_simp
    with_reducible rfl
  rotate_left
  · simp only [Act.put, List.setIfInBounds_toArray, List.set_cons_zero, List.set_cons_succ, i64_w, i32_w]
    rfl
  refine pure_ (i := 2) (N := some 19) (v := ?_) (a' := ?_) #[true, true, true, false, false, false, false, false, false] rfl rfl (by kernel_rfl) (fun _ _ _ h => h) (Or.inl ⟨by rfl, ?_⟩) ?_ ?_
  rotate_left
  · intro w'
    go_simp
    with_reducible rfl
  rotate_left
  · simp only [Act.put, List.setIfInBounds_toArray, List.set_cons_zero, List.set_cons_succ, i64_w, i32_w]
    rfl
  refine pure_ (i := 4) (N := some 21) (v := ?_) (a' := ?_) #[true, true, true, false, true, false, false, false, false] rfl rfl (by kernel_rfl) (fun _ _ _ h => h) (Or.inl ⟨by rfl, ?_⟩) ?_ ?_
  rotate_left
  · intro w'
    go_simp
    with_reducible rfl
  rotate_left
  · simp only [Act.put, List.setIfInBounds_toArray, List.set_cons_zero, List.set_cons_succ, i64_w, i32_w]
    rfl
  refine take_ (i := 3) (N := some 20) (v := ?_) (a' := ?_) #[true, true, true, true, true, false, false, false, false] rfl rfl (by kernel_rfl) (fun _ _ _ h => h) (Or.inl ⟨by rfl, ?_⟩) hHeld ?_ ?_
  rotate_left
  · rintro w' ⟨s0, s1, s2⟩
    go_simp
    with_reducible rfl
  rotate_left
  · simp only [Act.put, List.setIfInBounds_toArray, List.set_cons_zero, List.set_cons_succ, i64_w, i32_w]
    rfl
  refine take_ (i := 5) (N := some 22) (v := ?_) (a' := ?_) #[true, true, true, true, true, true, false, false, false] rfl rfl (by kernel_rfl) (fun _ _ _ h => h) (Or.inl ⟨by rfl, ?_⟩) hHeld ?_ ?_
  rotate_left
  · rintro w' ⟨s0, s1, s2⟩
    go_simp
    with_reducible rfl
  rotate_left
  · simp only [Act.put, List.setIfInBounds_toArray, List.set_cons_zero, List.set_cons_succ, i64_w, i32_w]
    rfl
  refine pure_ (i := 6) (N := some 23) (v := ?_) (a' := ?_) #[true, true, true, true, true, true, true, false, false] rfl rfl (by kernel_rfl) (fun _ _ _ h => h) (Or.inl ⟨by rfl, ?_⟩) ?_ ?_
  rotate_left
  · intro w'
    go_simp
    with_reducible rfl
  rotate_left
  · simp only [Act.put, List.setIfInBounds_toArray, List.set_cons_zero, List.set_cons_succ, i64_w, i32_w]
    rfl
  refine pure_ (i := 7) (N := some 24) (v := ?_) (a' := ?_) #[true, true, true, true, true, true, true, true, false] rfl rfl (by kernel_rfl) (fun _ _ _ h => h) (Or.inl ⟨by rfl, ?_⟩) ?_ ?_
  rotate_left
  · intro w'
    go_simp
    with_reducible rfl
  rotate_left
  · simp only [Act.put, List.setIfInBounds_toArray, List.set_cons_zero, List.set_cons_succ, i64_w, i32_w]
    rfl
  refine pure_ (i := 8) (N := some 16) (v := ?_) (a' := ?_) #[true, true, true, true, true, true, true, true, true] rfl rfl (by kernel_rfl) (fun _ _ _ h => h) (Or.inl ⟨by rfl, ?_⟩) ?_ ?_
  rotate_left
  · intro w'
    go_simp
    with_reducible rfl
  rotate_left
  · simp only [Act.put, List.setIfInBounds_toArray, List.set_cons_zero, List.set_cons_succ, i64_w, i32_w]
    rfl
  refine done_ (by kernel_rfl) ?_

  have HB2 := Lib.hid (HB1.out.drew)
  have HO2 := Lib.hid (HO1.out.below ((Below.refl v1.heap.size v1).drew) HO1.out.lt)
  replace c1 : v1.drew.cell? ⟨gc, 0, none⟩ = _ := c1
  replace c2 : v1.drew.cell? ⟨gc, 1, none⟩ = _ := c2
  replace c3 : v1.drew.frozen? ⟨gc, 1, none⟩ = _ := c3
  replace g1 : v1.drew.cell? ⟨g, 1, none⟩ = _ := g1
  replace g2 : v1.drew.cell? ⟨g, 62, none⟩ = _ := g2
  replace g3 : v1.drew.frozen? ⟨g, 62, none⟩ = _ := g3
  replace q6 : v1.drew.cell? ⟨gb, 6, none⟩ = _ := q6
  replace hgb1 : g < v1.drew.heap.size := hgb1
  replace hgc1 : gc < v1.drew.heap.size := hgc1
  replace hz1 : gb < v1.drew.heap.size := hz1
  clear HB1 HO1 hHeld
  generalize v1.drew = v2 at *
  go_wp2_with fail
  refine start_ (n := 10) (S := fun w' => Below v2.heap.size v2 w' ∧ w'.cell? ⟨g, 62, none⟩ = some (.int .i64 t) ∧ w'.frozen? ⟨g, 62, none⟩ = false ∧ w'.cell? ⟨gb, 6, none⟩ = some (.int .i64 n)) (ds := [9]) #[false, false, false, false, false, false, false, false, false, false] (by kernel_rfl) rfl rfl ⟨(still_drew v2).1, g2, g3, q6⟩ (fun hHeld => ?_)
  refine pure_ (i := 0) (N := some 25) (v := ?_) (a' := ?_) #[true, false, false, false, false, false, false, false, false, false] rfl rfl (by kernel_rfl) (fun _ _ _ h => h) (Or.inl ⟨by rfl, ?_⟩) ?_ ?_
  rotate_left
  · intro w'
    go_simp
    with_reducible rfl
  rotate_left
  · simp only [Act.put, List.setIfInBounds_toArray, List.set_cons_zero, List.set_cons_succ, i64_w, i32_w]
    rfl
  refine pure_ (i := 1) (N := some 26) (v := ?_) (a' := ?_) #[true, true, false, false, false, false, false, false, false, false] rfl rfl (by kernel_rfl) (fun _ _ _ h => h) (Or.inl ⟨by rfl, ?_⟩) ?_ ?_
  rotate_left
  · intro w'
    go_simp
    with_reducible rfl
  rotate_left
  · simp only [Act.put, List.setIfInBounds_toArray, List.set_cons_zero, List.set_cons_succ, i64_w, i32_w]
    rfl
  refine pure_ (i := 2) (N := some 27) (v := ?_) (a' := ?_) #[true, true, true, false, false, false, false, false, false, false] rfl rfl (by kernel_rfl) (fun _ _ _ h => h) (Or.inl ⟨by rfl, ?_⟩) ?_ ?_
  rotate_left
  · intro w'
    go_simp
    with_reducible rfl
  rotate_left
  · simp only [Act.put, List.setIfInBounds_toArray, List.set_cons_zero, List.set_cons_succ, i64_w, i32_w]
    rfl
  refine pure_ (i := 4) (N := some 29) (v := ?_) (a' := ?_) #[true, true, true, false, true, false, false, false, false, false] rfl rfl (by kernel_rfl) (fun _ _ _ h => h) (Or.inl ⟨by rfl, ?_⟩) ?_ ?_
  rotate_left
  · intro w'
    go_simp
    with_reducible rfl
  rotate_left
  · simp only [Act.put, List.setIfInBounds_toArray, List.set_cons_zero, List.set_cons_succ, i64_w, i32_w]
    rfl
  refine take_ (i := 3) (N := some 28) (v := ?_) (a' := ?_) #[true, true, true, true, true, false, false, false, false, false] rfl rfl (by kernel_rfl) (fun _ _ _ h => h) (Or.inl ⟨by rfl, ?_⟩) hHeld ?_ ?_
  rotate_left
  · rintro w' ⟨s0, s1, s2, s3⟩
    go_simp
    with_reducible rfl
  rotate_left
  · simp only [Act.put, List.setIfInBounds_toArray, List.set_cons_zero, List.set_cons_succ, i64_w, i32_w]
    rfl
  refine take_ (i := 5) (N := some 30) (v := ?_) (a' := ?_) #[true, true, true, true, true, true, false, false, false, false] rfl rfl (by kernel_rfl) (fun _ _ _ h => h) (Or.inl ⟨by rfl, ?_⟩) hHeld ?_ ?_
  rotate_left
  · rintro w' ⟨s0, s1, s2, s3⟩
    go_simp
    with_reducible rfl
  rotate_left
  · simp only [Act.put, List.setIfInBounds_toArray, List.set_cons_zero, List.set_cons_succ, i64_w, i32_w]
    rfl
  refine pure_ (i := 6) (N := some 31) (v := ?_) (a' := ?_) #[true, true, true, true, true, true, true, false, false, false] rfl rfl (by kernel_rfl) (fun _ _ _ h => h) (Or.inl ⟨by rfl, ?_⟩) ?_ ?_
  rotate_left
  · intro w'
    go_simp
    with_reducible rfl
  rotate_left
  · simp only [Act.put, List.setIfInBounds_toArray, List.set_cons_zero, List.set_cons_succ, i64_w, i32_w]
    rfl
  refine pure_ (i := 7) (N := some 32) (v := ?_) (a' := ?_) #[true, true, true, true, true, true, true, true, false, false] rfl rfl (by kernel_rfl) (fun _ _ _ h => h) (Or.inl ⟨by rfl, ?_⟩) ?_ ?_
  rotate_left
  · intro w'
    go_simp
    with_reducible rfl
  rotate_left
  · simp only [Act.put, List.setIfInBounds_toArray, List.set_cons_zero, List.set_cons_succ, i64_w, i32_w]
    rfl
  refine pure_ (i := 8) (N := some 33) (v := ?_) (a' := ?_) #[true, true, true, true, true, true, true, true, true, false] rfl rfl (by kernel_rfl) (fun _ _ _ h => h) (Or.inl ⟨by rfl, ?_⟩) ?_ ?_
  rotate_left
  · intro w'
    go_simp
    with_reducible rfl
  rotate_left
  · simp only [Act.put, List.setIfInBounds_toArray, List.set_cons_zero, List.set_cons_succ, i64_w, i32_w]
    rfl
  refine last_ (i := 9) (N := none) #[true, true, true, true, true, true, true, true, true, true] rfl rfl (by kernel_rfl) (by decide) (fun K hK => ?_)
  refine skip_ (w1 := ?_) (by rfl) rfl ?_ ?_
  rotate_left
  · go_simp
    rfl
  refine hK.out _ _ ?_
  clear hK K
  refine done_ (by kernel_rfl) ?_

  have hbmg : bm ≠ g := HO2.out.ne_cells g1
  have d1 : (v2.setCell ⟨g, 62, none⟩ (.int .i64 (t + n))).drew.cell? ⟨g, 1, none⟩ = some (.pointer (some ⟨gc, 0, none⟩)) := (World.cell?_setCell_other _ _ _ _ (by simp)).trans g1
  have d2 : (v2.setCell ⟨g, 62, none⟩ (.int .i64 (t + n))).drew.cell? ⟨g, 62, none⟩ = some (.int .i64 (t + n)) := World.cell?_setCell_same _ _ _ g2
  have e1 : (v2.setCell ⟨g, 62, none⟩ (.int .i64 (t + n))).drew.cell? ⟨gc, 0, none⟩ = some (.map (some bm)) := (World.cell?_setCell_other _ _ _ _ (by simp)).trans c1
  have e2 : (v2.setCell ⟨g, 62, none⟩ (.int .i64 (t + n))).drew.cell? ⟨gc, 1, none⟩ = some (.slice none 0 0) := (World.cell?_setCell_other _ _ _ _ (by simp)).trans c2
  have e3 : (v2.setCell ⟨g, 62, none⟩ (.int .i64 (t + n))).drew.frozen? ⟨gc, 1, none⟩ = false := by
    show (World.setCell _ _ _).frozen? _ = false
    rw [World.frozen?_setCell]; exact c3
  have ho3 : MapV.Own Tryz.prog .i64 3 (v2.setCell ⟨g, 62, none⟩ (.int .i64 (t + n))).drew bm MapV.none_ 0 := (HO2.out.setCell (v := .int .i64 (t + n)) (o := 62) hbmg).heap rfl
  have hB3 : Beside g gc w (v2.setCell ⟨g, 62, none⟩ (.int .i64 (t + n))).drew := by
    refine (Beside.of_below (by rw [hgb]; exact HB2.out)).trans (.trans (.of_grown (Script.grown_set v2 ⟨g, 62, none⟩ _) (.inl rfl)) (.of_below (Below.refl _ _).drew))
  have hz3 : g < (v2.setCell ⟨g, 62, none⟩ (.int .i64 (t + n))).drew.heap.size := by show g < (World.setCell _ _ _).heap.size; simpa using hgb1
  have hz4 : gc < (v2.setCell ⟨g, 62, none⟩ (.int .i64 (t + n))).drew.heap.size := by show gc < (World.setCell _ _ _).heap.size; simpa using hgc1
  generalize (v2.setCell ⟨g, 62, none⟩ (.int .i64 (t + n))).drew = v3 at *
  have HO3 := Lib.hid ho3
  have HB3 := Lib.hid hB3
  clear ho3 hB3 g1 g2 g3 c1 c2 c3 q6 HO2 HB2 hHeld hgb1 hgc1 hz1
  go_wp2_with fail
  refine start_ (n := 15) (S := fun w' => Below v3.heap.size v3 w' ∧ w'.cell? ⟨g, 1, none⟩ = some (.pointer (some ⟨gc, 0, none⟩)) ∧ w'.cell? ⟨g, 62, none⟩ = some (.int .i64 (t + n))) (ds := [9]) #[false, false, false, false, false, false, false, false, false, false, false, false, false, false, false] (by kernel_rfl) rfl rfl ⟨(still_drew v3).1, d1, d2⟩ (fun hHeld => ?_)
  refine pure_ (i := 0) (N := some 35) (v := ?_) (a' := ?_) #[true, false, false, false, false, false, false, false, false, false, false, false, false, false, false] rfl rfl (by kernel_rfl) (fun _ _ _ h => h) (Or.inl ⟨by rfl, ?_⟩) ?_ ?_
  rotate_left
  · intro w'
    go_simp
    with_reducible rfl
  rotate_left
  · simp only [Act.put, List.setIfInBounds_toArray, List.set_cons_zero, List.set_cons_succ, i64_w, i32_w]
    rfl
  refine pure_ (i := 1) (N := some 36) (v := ?_) (a' := ?_) #[true, true, false, false, false, false, false, false, false, false, false, false, false, false, false] rfl rfl (by kernel_rfl) (fun _ _ _ h => h) (Or.inl ⟨by rfl, ?_⟩) ?_ ?_
  rotate_left
  · intro w'
    go_simp
    with_reducible rfl
  rotate_left
  · simp only [Act.put, List.setIfInBounds_toArray, List.set_cons_zero, List.set_cons_succ, i64_w, i32_w]
    rfl
  refine pure_ (i := 2) (N := some 37) (v := ?_) (a' := ?_) #[true, true, true, false, false, false, false, false, false, false, false, false, false, false, false] rfl rfl (by kernel_rfl) (fun _ _ _ h => h) (Or.inl ⟨by rfl, ?_⟩) ?_ ?_
  rotate_left
  · intro w'
    go_simp
    with_reducible rfl
  rotate_left
  · simp only [Act.put, List.setIfInBounds_toArray, List.set_cons_zero, List.set_cons_succ, i64_w, i32_w]
    rfl
  refine pure_ (i := 4) (N := some 39) (v := ?_) (a' := ?_) #[true, true, true, false, true, false, false, false, false, false, false, false, false, false, false] rfl rfl (by kernel_rfl) (fun _ _ _ h => h) (Or.inl ⟨by rfl, ?_⟩) ?_ ?_
  rotate_left
  · intro w'
    go_simp
    with_reducible rfl
  rotate_left
  · simp only [Act.put, List.setIfInBounds_toArray, List.set_cons_zero, List.set_cons_succ, i64_w, i32_w]
    rfl
  refine pure_ (i := 5) (N := some 40) (v := ?_) (a' := ?_) #[true, true, true, false, true, true, false, false, false, false, false, false, false, false, false] rfl rfl (by kernel_rfl) (fun _ _ _ h => h) (Or.inl ⟨by rfl, ?_⟩) ?_ ?_
  rotate_left
  · intro w'
    go_simp
    with_reducible rfl
  rotate_left
  · simp only [Act.put, List.setIfInBounds_toArray, List.set_cons_zero, List.set_cons_succ, i64_w, i32_w]
    rfl
  refine pure_ (i := 6) (N := some 41) (v := ?_) (a' := ?_) #[true, true, true, false, true, true, true, false, false, false, false, false, false, false, false] rfl rfl (by kernel_rfl) (fun _ _ _ h => h) (Or.inl ⟨by rfl, ?_⟩) ?_ ?_
  rotate_left
  · intro w'
    go_simp
    with_reducible rfl
  rotate_left
  · simp only [Act.put, List.setIfInBounds_toArray, List.set_cons_zero, List.set_cons_succ, i64_w, i32_w]
    rfl
  refine take_ (i := 3) (N := some 38) (v := ?_) (a' := ?_) #[true, true, true, true, true, true, true, false, false, false, false, false, false, false, false] rfl rfl (by kernel_rfl) (fun _ _ _ h => h) (Or.inl ⟨by rfl, ?_⟩) hHeld ?_ ?_
  rotate_left
  · rintro w' ⟨s0, s1, s2⟩
    go_simp
    with_reducible rfl
  rotate_left
  · simp only [Act.put, List.setIfInBounds_toArray, List.set_cons_zero, List.set_cons_succ, i64_w, i32_w]
    rfl
  refine take_ (i := 7) (N := some 42) (v := ?_) (a' := ?_) #[true, true, true, true, true, true, true, true, false, false, false, false, false, false, false] rfl rfl (by kernel_rfl) (fun _ _ _ h => h) (Or.inl ⟨by rfl, ?_⟩) hHeld ?_ ?_
  rotate_left
  · rintro w' ⟨s0, s1, s2⟩
    go_simp
    with_reducible rfl
  rotate_left
  · simp only [Act.put, List.setIfInBounds_toArray, List.set_cons_zero, List.set_cons_succ, i64_w, i32_w]
    rfl
  refine pure_ (i := 8) (N := some 43) (v := ?_) (a' := ?_) #[true, true, true, true, true, true, true, true, true, false, false, false, false, false, false] rfl rfl (by kernel_rfl) (fun _ _ _ h => h) (Or.inl ⟨by rfl, ?_⟩) ?_ ?_
  rotate_left
  · intro w'
    go_simp
    with_reducible rfl
  rotate_left
  · simp only [Act.put, List.setIfInBounds_toArray, List.set_cons_zero, List.set_cons_succ, i64_w, i32_w]
    rfl
  refine last_ (i := 9) (N := some 44) #[true, true, true, true, true, true, true, true, true, true, false, false, false, false, false] rfl rfl (by kernel_rfl) (by decide) (fun K hK => ?_)
  refine goes_ Tryz.func67 (by kernel_rfl) rfl #[.pointer (some ⟨gc, 0, none⟩), .agg #[.int .i64 4, .int .i64 0, .int .u8 0, .int .i64 0, .int .i64 0, .int .i64 (t + n), .int .i64 0, .int .i64 0]] (by rfl) rfl rfl (by simp only [List.map_toArray, List.map_cons, List.map_nil]; rfl) ?_
  refine (HDO.out _ ((hHeld.1.cell (p := ⟨gc, 0, none⟩) hz4).trans e1) ((hHeld.1.cell (p := ⟨gc, 1, none⟩) hz4).trans e2) ((hHeld.1.frozen (p := ⟨gc, 1, none⟩) hz4).trans e3) (HO3.out.below hHeld.1 HO3.out.lt)).mono ?_
  rintro r w5 ⟨rfl, hG5⟩
  refine ⟨_, rfl, ?_⟩
  have f1 := (hG5.cell_far ⟨g, 1, none⟩ (Nat.lt_of_lt_of_le hz3 hHeld.1.size) (fun e => hne (Option.some.inj e))).trans hHeld.2.1
  have f2 := (hG5.cell_far ⟨g, 62, none⟩ (Nat.lt_of_lt_of_le hz3 hHeld.1.size) (fun e => hne (Option.some.inj e))).trans hHeld.2.2
  have HL := Lib.hid hHeld.1
  have HG5 := Lib.hid hG5
  clear hG5
  refine hK.out _ _ ?_
  clear hK K
  refine norm_ (a' := ?_) ?_ ?_
  rotate_left
  · show Act.put _ (some 44) _ = _
    simp only [Act.put, List.setIfInBounds_toArray, List.set_cons_zero, List.set_cons_succ, i64_w, i32_w]
    rfl
  refine pure_ (i := 10) (N := some 34) (v := ?_) (a' := ?_) #[true, true, true, true, true, true, true, true, true, true, true, false, false, false, false] rfl rfl (by kernel_rfl) (fun _ _ _ h => h) (Or.inl ⟨by rfl, ?_⟩) ?_ ?_
  rotate_left
  · intro w'
    go_simp
    with_reducible rfl
  rotate_left
  · simp only [Act.put, List.setIfInBounds_toArray, List.set_cons_zero, List.set_cons_succ, i64_w, i32_w]
    rfl
  refine pure_ (i := 11) (N := some 45) (v := ?_) (a' := ?_) #[true, true, true, true, true, true, true, true, true, true, true, true, false, false, false] rfl rfl (by kernel_rfl) (fun _ _ _ h => h) (Or.inl ⟨by rfl, ?_⟩) ?_ ?_
  rotate_left
  · intro w'
    go_simp
    with_reducible rfl
  rotate_left
  · simp only [Act.put, List.setIfInBounds_toArray, List.set_cons_zero, List.set_cons_succ, i64_w, i32_w]
    rfl
  refine pure_ (i := 12) (N := some 46) (v := ?_) (a' := ?_) #[true, true, true, true, true, true, true, true, true, true, true, true, true, false, false] rfl rfl (by kernel_rfl) (fun _ _ _ h => h) (Or.inl ⟨by rfl, ?_⟩) ?_ ?_
  rotate_left
  · intro w'
    go_simp
    with_reducible rfl
  rotate_left
  · simp only [Act.put, List.setIfInBounds_toArray, List.set_cons_zero, List.set_cons_succ, i64_w, i32_w]
    rfl
  refine pure_ (i := 13) (N := some 5) (v := ?_) (a' := ?_) #[true, true, true, true, true, true, true, true, true, true, true, true, true, true, false] rfl rfl (by kernel_rfl) (fun _ _ _ h => h) (Or.inl ⟨by rfl, ?_⟩) ?_ ?_
  rotate_left
  · intro w'
    go_simp
    with_reducible rfl
  rotate_left
  · simp only [Act.put, List.setIfInBounds_toArray, List.set_cons_zero, List.set_cons_succ, i64_w, i32_w]
    rfl
  refine pure_ (i := 14) (N := some 6) (v := ?_) (a' := ?_) #[true, true, true, true, true, true, true, true, true, true, true, true, true, true, true] rfl rfl (by kernel_rfl) (fun _ _ _ h => h) (Or.inl ⟨by rfl, ?_⟩) ?_ ?_
  rotate_left
  · intro w'
    go_simp
    with_reducible rfl
  rotate_left
  · simp only [Act.put, List.setIfInBounds_toArray, List.set_cons_zero, List.set_cons_succ, i64_w, i32_w]
    rfl
  refine done_ (by kernel_rfl) ?_

  go_wp2_with fail
  go_ret
  exact ⟨rfl, f1, f2, HB3.out.trans ((Beside.of_below HL.out).trans (.of_grown HG5.out (.inr rfl)))⟩
end Go.Proofs.YtammpdifkpfafaaGreatDoor.News
