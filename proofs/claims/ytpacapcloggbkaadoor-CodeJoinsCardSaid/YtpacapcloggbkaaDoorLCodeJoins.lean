/- The bytes of two shapes, one behind the other, are those of both: for all shapes and values the statement's call returns true. -/
import Derived.Test.YtpacapcloggbkaaDoorCodeUse
namespace Go.Proofs.YtpacapcloggbkaaDoor.LCodeJoins
open Go.RowKit CodeSpec Flat CodeMem Go.Proofs.YtpacapcloggbkaaDoorW.PrintLast
set_option linter.unusedSimpArgs false
set_option linter.unusedVariables false

theorem encL_append : ∀ (s1 s2 : List UInt8) (v1 v2 : List V) (o1 o2 : List UInt8), encL s1 v1 = some o1 → encL s2 v2 = some o2 → encL (s1 ++ s2) (v1 ++ v2) = some (o1 ++ o2)
  | [], s2, [], v2, o1, o2, h1, h2 => by simp [encL] at h1; subst h1; simpa using h2
  | [], _, _ :: _, _, _, _, h1, _ => by simp [encL] at h1
  | _ :: _, _, [], _, _, _, h1, _ => by simp [encL] at h1
  | c :: cs, s2, v :: vs, v2, o1, o2, h1, h2 => by
    rw [encL] at h1
    split at h1
    · rename_i hf
      obtain ⟨o', ho, rfl⟩ := Option.map_eq_some_iff.mp h1
      rw [List.cons_append, List.cons_append, encL, if_pos hf, encL_append cs s2 vs v2 o' o2 ho h2]
      simp
    · cases h1
theorem enc_append {s1 s2 : List UInt8} {v1 v2 : List V} {o1 o2 : List UInt8} (h1 : enc s1 v1 = (o1, 0)) (h2 : enc s2 v2 = (o2, 0)) (hl : s1.length + s2.length ≤ 100) :
    enc (s1 ++ s2) (v1 ++ v2) = if 4000 < (o1 ++ o2).length then ([], 3) else (o1 ++ o2, 0) := by
  obtain ⟨a1, b1, _⟩ := enc_ok.mp h1
  obtain ⟨a2, b2, _⟩ := enc_ok.mp h2
  refine enc_some ?_ (encL_append _ _ _ _ _ _ b1 b2)
  unfold shapeB at *
  simp only [Bool.and_eq_true, decide_eq_true_eq] at a1 a2 ⊢
  rw [List.all_append, a1.1, a2.1, List.length_append]
  exact ⟨rfl, hl⟩

/-- Values of the call's own appended to others, in a region that draws its order. -/
theorem append_vals_ {ops : Array Oper} {Q : Exit → Act → World → Prop} {oi : Oper} {N : Option Tmp} {a : Act} {w : World} {K : Act → World → Prop} (hw : Region.wanted oi (yielded ops a.tmps) = true) (hN : oi.dst = N)
    (s x : Operand) (ho : oi.op = .call { callee := .builtin .append, args := #[s, x], argTypes := #[29, 29] })
    (B B' : Nat) (u v : Value) (xs ys : List V) (hs : a.eval s = u) (hx : a.eval x = v) (hu : OwnV w B u xs) (hv : OwnV w B' v ys) (hl : xs.length + ys.length ≤ 100000) (hB : B ≤ w.heap.size)
    (h : ∀ v' w', OwnV w' B v' (xs ++ ys) → w.grownBy w' u.ownBlock → K (a.put N v') w') :
    if Region.wanted oi (yielded ops a.tmps) = true then Oper.wp Tryd.prog oi a w K Q else K (a.put N undef) w := by
  obtain ⟨i0, hi, hz0, hz1, hz2⟩ := info_parts info48
  have hc := fun g => World.ownsRow.cells (g := g) hv
  rcases hv.2 with ⟨h1, h2⟩ | ⟨g, cap, cur, h1, _⟩
  · have hy : ys = [] := List.length_eq_zero_iff.mp h2
    subst hy h1
    rw [if_pos hw]
    subst hN
    have hr := run_append_owned_none (P := Tryd.prog) (w := w) B 29 oi.type 48 i0 2 Tryd.underlying29 hi u _ _ hu
    unfold Oper.wp execOp
    simp only [ho, resolve, invoke, builtin, Sem.run_bind, Sem.run_pure, Result.andThen_ok, List.map_toArray, List.map_cons, List.map_nil, hs, hx, hr]
    exact h u w (by simpa using hu) ⟨rfl, rfl, rfl, Nat.le_refl _, fun _ _ _ => rfl⟩
  · subst h1
    refine append_slice_ hw hN s x 29 ho B 48 i0 _ 2 24 Tryd.underlying29 hi hz0 hz1 hz2 rfl (by decide) u _ _ hs hu ⟨g, 0, none⟩ ys.length cap (vcells ys) hx (vcells_length _) (hc g rfl) ?_ (by unfold maxLen; omega) (by omega) hB ?_
    · intro z hz
      unfold vcells at hz
      obtain ⟨y, _, hy⟩ := List.mem_flatMap.mp hz
      simp at hy
      rcases hy with rfl | rfl <;> rfl
    · intro v' w' h1 h2
      refine h v' w' ?_ h2
      rw [OwnV, vcells_append, List.length_append]
      exact h1

theorem ownv_below {w w' : World} {B : Nat} {v : Value} {l : List V} (h : OwnV w B v l) (hb : Below w.heap.size w w') : OwnV w' B v l :=
  World.ownsRow.kept h (row := none) (grown_below hb) (by cases v.ownBlock <;> simp)

set_option maxRecDepth 100000 in
set_option maxHeartbeats 4000000 in
theorem walk (c0 : List Value) (a1 : Option Addr) (len1 cap1 : Nat) (r1 : List (List Value)) (a2 : Option Addr) (len2 cap2 : Nat) (r2 : List (List Value)) (w : World) (w0 : Fits [.str, .str] c0) (w1 : IsRows [.int .u64, .str] w a1 len1 cap1 r1) (w2 : IsRows [.int .u64, .str] w a2 len2 cap2 r2) :
    Calls Tryd.prog 9 #[.agg c0.toArray, .slice a1 len1 cap1, .slice a2 len2 cap2] w fun e w' => e = .returned (.bool true) ∧ Below w.heap.size w w' := by
  obtain ⟨s0, _, rfl, hs0, x1⟩ := w0.str
  obtain ⟨s1, _, rfl, hs1, x2⟩ := x1.str
  obtain rfl := x2.done
  obtain ⟨vs1, hvl1, hv⟩ := rows_vals w1
  obtain ⟨vs2, hvl2, hu⟩ := rows_vals w2
  clear hvl1 hvl2 w1 w2 w0 x1 x2
  generalize Value.slice a1 len1 cap1 = V1 at *
  generalize Value.slice a2 len2 cap2 = V2 at *
  have hs0' := hs0
  have hs1' := hs1
  unfold maxLen at hs0' hs1'
  have pre : ∀ (X : Nat), True := fun _ => trivial
  clear pre
  by_cases hA : 50 < s0.size
  · have hI : (50 : Int) < (s0.size : Int) := by omega
    go_enter Tryd.func9, Tryd.ntmps9
    go_wp2_with fail
    refine (alive_any _).mono ?_
    rintro e v1 ⟨rfl, hb1⟩
    have c0 : v1.cell? ⟨w.heap.size, 0, none⟩ = some (.string s0) := by rw [hb1.cell (p := ⟨w.heap.size, 0, none⟩) (by simp)]; exact World.cell?_alloc_at _ _ _ _ rfl
    have hB1 : Below w.heap.size w v1 := ((Below.refl _ w).alloc (Nat.le_refl _) _).trans (hb1.mono (by simp))
    clear hb1
    go_wp2_with fail
    go_ret
    exact ⟨rfl, hB1⟩
  · have hI : ¬ (50 : Int) < (s0.size : Int) := by omega
    by_cases hA1 : 50 < s1.size
    · have hI1 : (50 : Int) < (s1.size : Int) := by omega
      go_enter Tryd.func9, Tryd.ntmps9
      go_wp2_with fail
      refine (alive_any _).mono ?_
      rintro e v1 ⟨rfl, hb1⟩
      have c0 : v1.cell? ⟨w.heap.size, 0, none⟩ = some (.string s0) := by rw [hb1.cell (p := ⟨w.heap.size, 0, none⟩) (by simp)]; exact World.cell?_alloc_at _ _ _ _ rfl
      have c1 : v1.cell? ⟨w.heap.size, 1, none⟩ = some (.string s1) := by rw [hb1.cell (p := ⟨w.heap.size, 1, none⟩) (by simp)]; exact World.cell?_alloc_at _ _ _ _ rfl
      have hB1 : Below w.heap.size w v1 := ((Below.refl _ w).alloc (Nat.le_refl _) _).trans (hb1.mono (by simp))
      clear hb1
      go_wp2_with fail
      go_ret
      exact ⟨rfl, hB1⟩
    · have hI1 : ¬ (50 : Int) < (s1.size : Int) := by omega
      go_enter Tryd.func9, Tryd.ntmps9
      go_wp2_with fail
      refine (alive_any _).mono ?_
      rintro e v1 ⟨rfl, hb1⟩
      have c0 : v1.cell? ⟨w.heap.size, 0, none⟩ = some (.string s0) := by rw [hb1.cell (p := ⟨w.heap.size, 0, none⟩) (by simp)]; exact World.cell?_alloc_at _ _ _ _ rfl
      have c1 : v1.cell? ⟨w.heap.size, 1, none⟩ = some (.string s1) := by rw [hb1.cell (p := ⟨w.heap.size, 1, none⟩) (by simp)]; exact World.cell?_alloc_at _ _ _ _ rfl
      have hB1 : Below w.heap.size w v1 := ((Below.refl _ w).alloc (Nat.le_refl _) _).trans (hb1.mono (by simp))
      have z1 : w.heap.size < v1.heap.size := by have := hb1.size; simp at this; omega
      have hv1 := vals_below hv hB1
      have hu1 := vals_below hu hB1
      clear hb1 hv hu
      generalize hAA : w.heap.size = A at *
      go_wp2_with fail
      refine (few_any V1 vs1 v1 hv1).mono ?_
      rintro e v2 ⟨b, rfl, hfew1, hb2⟩
      have hB2 : Below A w v2 := hB1.trans (hb2.mono (by omega))
      have d0 := (hb2.cell (p := ⟨A, 0, none⟩) z1).trans c0
      have d1 := (hb2.cell (p := ⟨A, 1, none⟩) z1).trans c1
      have z2 := Nat.lt_of_lt_of_le z1 hb2.size
      have hv2 := vals_below hv1 hb2
      have hu2 := vals_below hu1 hb2
      clear hv1 hu1 c0 c1 z1 hB1 hb2
      cases b with
      | false =>
        go_wp2_with fail
        go_ret
        exact ⟨rfl, by rw [hAA]; exact hB2⟩
      | true =>
        have hl1 := hfew1 rfl
        clear hfew1
        go_wp2_with fail
        refine (few_any V2 vs2 v2 hu2).mono ?_
        rintro e v3 ⟨b, rfl, hfew2, hb3⟩
        have hB3 : Below A w v3 := hB2.trans (hb3.mono (by omega))
        have c0 := (hb3.cell (p := ⟨A, 0, none⟩) z2).trans d0
        have c1 := (hb3.cell (p := ⟨A, 1, none⟩) z2).trans d1
        have z3 := Nat.lt_of_lt_of_le z2 hb3.size
        have hv3 := vals_below hv2 hb3
        have hu3 := vals_below hu2 hb3
        clear hv2 hu2 d0 d1 z2 hB2 hb3
        cases b with
        | false =>
          go_wp2_with fail
          go_ret
          exact ⟨rfl, by rw [hAA]; exact hB3⟩
        | true =>
          have hl2 := hfew2 rfl
          clear hfew2
          have HE1 : ∀ T, T = enc s0.data.toList vs1 → ∀ u w, IsVals w u vs1 → Calls Tryd.prog 12 #[.string s0, u] w (EncUse T w) := fun T hT u w h => by subst hT; exact encode_use s0 u vs1 w hs0 h
          have HE2 : ∀ T, T = enc s1.data.toList vs2 → ∀ u w, IsVals w u vs2 → Calls Tryd.prog 12 #[.string s1, u] w (EncUse T w) := fun T hT u w h => by subst hT; exact encode_use s1 u vs2 w hs1 h
          obtain ⟨⟨o1, e1⟩, hT1⟩ : ∃ T, T = enc s0.data.toList vs1 := ⟨_, rfl⟩
          obtain ⟨⟨o2, e2⟩, hT2⟩ : ∃ T, T = enc s1.data.toList vs2 := ⟨_, rfl⟩
          have F1 := HE1 _ hT1
          have F2 := HE2 _ hT2
          have HT1 := Lib.hid hT1
          have HT2 := Lib.hid hT2
          clear HE1 HE2 hT1 hT2
          go_wp2_with fail
          refine start_ (n := 10) (S := fun w' => w'.cell? ⟨A, 0, none⟩ = some (.string s0)) (ds := []) #[false, false, false, false, false, false, false, false, false, false] (by kernel_rfl) rfl rfl (c0) (fun hHeld => ?_)
          refine pure_ (i := 0) (N := some 36) (v := ?_) (a' := ?_) #[true, false, false, false, false, false, false, false, false, false] rfl rfl (by kernel_rfl) (fun _ _ _ h => h) (Or.inl ⟨by rfl, ?_⟩) ?_ ?_
          rotate_left
          · intro w'
            go_simp
            with_reducible rfl
          rotate_left
          · simp only [Act.put, List.setIfInBounds_toArray, List.set_cons_zero, List.set_cons_succ, i64_w, i32_w]
            rfl
          refine pure_ (i := 2) (N := some 38) (v := ?_) (a' := ?_) #[true, false, true, false, false, false, false, false, false, false] rfl rfl (by kernel_rfl) (fun _ _ _ h => h) (Or.inl ⟨by rfl, ?_⟩) ?_ ?_
          rotate_left
          · intro w'
            go_simp
            with_reducible rfl
          rotate_left
          · simp only [Act.put, List.setIfInBounds_toArray, List.set_cons_zero, List.set_cons_succ, i64_w, i32_w]
            rfl
          refine take_ (i := 1) (N := some 37) (v := ?_) (a' := ?_) #[true, true, true, false, false, false, false, false, false, false] rfl rfl (by kernel_rfl) (fun _ _ _ h => h) (Or.inl ⟨by rfl, ?_⟩) hHeld ?_ ?_
          rotate_left
          · intro w' s0
            go_simp
            with_reducible rfl
          rotate_left
          · simp only [Act.put, List.setIfInBounds_toArray, List.set_cons_zero, List.set_cons_succ, i64_w, i32_w]
            rfl
          refine one_ (i := 3) (N := some 39) #[true, true, true, true, false, false, false, false, false, false] rfl rfl (by kernel_rfl) (by decide) (fun K hK => ?_)
          refine goes_ Tryd.func13 (by kernel_rfl) rfl #[V1] (by rfl) rfl rfl (by simp only [List.map_toArray, List.map_cons, List.map_nil]; rfl) ?_
          refine (theirs_use V1 vs1 _ (vals_below hv3 (Below.refl _ _).drew) (by omega)).mono ?_
          rintro e w4 ⟨u4, rfl, hu4, hb4⟩
          refine ⟨_, rfl, ?_⟩
          refine hK.out _ _ ((hb4.cell (p := ⟨A, 0, none⟩) z3).trans c0) (fun hHeld => ?_)
          clear hK K
          refine norm_ (a' := ?_) ?_ ?_
          rotate_left
          · show Act.put _ (some 39) _ = _
            simp only [Act.put, List.setIfInBounds_toArray, List.set_cons_zero, List.set_cons_succ, i64_w, i32_w]
            rfl
          refine one_ (i := 4) (N := some 40) #[true, true, true, true, true, false, false, false, false, false] rfl rfl (by kernel_rfl) (by decide) (fun K hK => ?_)
          refine goes_ Tryd.func12 (by kernel_rfl) rfl #[.string s0, u4] (by rfl) rfl rfl (by simp only [List.map_toArray, List.map_cons, List.map_nil]; rfl) ?_
          refine (F1 u4 _ hu4).mono ?_
          rintro e w5 ⟨ac, capc, rfl, hc1, hc2, hi5, hb5⟩
          refine ⟨_, rfl, ?_⟩
          refine hK.out _ _ ((hb5.cell (p := ⟨A, 0, none⟩) (Nat.lt_of_lt_of_le z3 hb4.size)).trans ((hb4.cell (p := ⟨A, 0, none⟩) z3).trans c0)) (fun hHeld => ?_)
          clear hK K
          refine norm_ (a' := ?_) ?_ ?_
          rotate_left
          · show Act.put _ (some 40) _ = _
            simp only [Act.put, List.setIfInBounds_toArray, List.set_cons_zero, List.set_cons_succ, i64_w, i32_w]
            rfl
          refine pure_ (i := 5) (N := some 35) (v := ?_) (a' := ?_) #[true, true, true, true, true, true, false, false, false, false] rfl rfl (by kernel_rfl) (fun _ _ _ h => h) (Or.inl ⟨by rfl, ?_⟩) ?_ ?_
          rotate_left
          · intro w'
            go_simp
            with_reducible rfl
          rotate_left
          · simp only [Act.put, List.setIfInBounds_toArray, List.set_cons_zero, List.set_cons_succ, i64_w, i32_w]
            rfl
          refine pure_ (i := 6) (N := some 41) (v := ?_) (a' := ?_) #[true, true, true, true, true, true, true, false, false, false] rfl rfl (by kernel_rfl) (fun _ _ _ h => h) (Or.inl ⟨by rfl, ?_⟩) ?_ ?_
          rotate_left
          · intro w'
            go_simp
            with_reducible rfl
          rotate_left
          · simp only [Act.put, List.setIfInBounds_toArray, List.set_cons_zero, List.set_cons_succ, i64_w, i32_w]
            rfl
          refine pure_ (i := 7) (N := some 42) (v := ?_) (a' := ?_) #[true, true, true, true, true, true, true, true, false, false] rfl rfl (by kernel_rfl) (fun _ _ _ h => h) (Or.inl ⟨by rfl, ?_⟩) ?_ ?_
          rotate_left
          · intro w'
            go_simp
            with_reducible rfl
          rotate_left
          · simp only [Act.put, List.setIfInBounds_toArray, List.set_cons_zero, List.set_cons_succ, i64_w, i32_w]
            rfl
          refine pure_ (i := 8) (N := some 7) (v := ?_) (a' := ?_) #[true, true, true, true, true, true, true, true, true, false] rfl rfl (by kernel_rfl) (fun _ _ _ h => h) (Or.inl ⟨by rfl, ?_⟩) ?_ ?_
          rotate_left
          · intro w'
            go_simp
            with_reducible rfl
          rotate_left
          · simp only [Act.put, List.setIfInBounds_toArray, List.set_cons_zero, List.set_cons_succ, i64_w, i32_w]
            rfl
          refine pure_ (i := 9) (N := some 8) (v := ?_) (a' := ?_) #[true, true, true, true, true, true, true, true, true, true] rfl rfl (by kernel_rfl) (fun _ _ _ h => h) (Or.inl ⟨by rfl, ?_⟩) ?_ ?_
          rotate_left
          · intro w'
            go_simp
            with_reducible rfl
          rotate_left
          · simp only [Act.put, List.setIfInBounds_toArray, List.set_cons_zero, List.set_cons_succ, i64_w, i32_w]
            rfl
          refine done_ (by kernel_rfl) ?_

          have hbb : Below v3.heap.size v3 w5 := (Below.refl _ v3).drew.trans (hb4.trans (hb5.mono hb4.size))
          dsimp only at hc1 hc2 hi5
          have hB5 : Below A w w5 := hB3.trans (hbb.mono (by omega))
          have z5 := Nat.lt_of_lt_of_le z3 hbb.size
          have d0 := (hbb.cell (p := ⟨A, 0, none⟩) z3).trans c0
          have d1 := (hbb.cell (p := ⟨A, 1, none⟩) z3).trans c1
          have hv5 := vals_below hv3 hbb
          have hu5 := vals_below hu3 hbb
          clear hbb hb4 hb5 hu4 c0 c1 z3 hB3 hv3 hu3 F1
          go_wp2_with fail
          refine start_ (n := 10) (S := fun w' => w'.cell? ⟨A, 1, none⟩ = some (.string s1)) (ds := []) #[false, false, false, false, false, false, false, false, false, false] (by kernel_rfl) rfl rfl (d1) (fun hHeld => ?_)
          refine pure_ (i := 0) (N := some 44) (v := ?_) (a' := ?_) #[true, false, false, false, false, false, false, false, false, false] rfl rfl (by kernel_rfl) (fun _ _ _ h => h) (Or.inl ⟨by rfl, ?_⟩) ?_ ?_
          rotate_left
          · intro w'
            go_simp
            with_reducible rfl
          rotate_left
          · simp only [Act.put, List.setIfInBounds_toArray, List.set_cons_zero, List.set_cons_succ, i64_w, i32_w]
            rfl
          refine pure_ (i := 2) (N := some 46) (v := ?_) (a' := ?_) #[true, false, true, false, false, false, false, false, false, false] rfl rfl (by kernel_rfl) (fun _ _ _ h => h) (Or.inl ⟨by rfl, ?_⟩) ?_ ?_
          rotate_left
          · intro w'
            go_simp
            with_reducible rfl
          rotate_left
          · simp only [Act.put, List.setIfInBounds_toArray, List.set_cons_zero, List.set_cons_succ, i64_w, i32_w]
            rfl
          refine take_ (i := 1) (N := some 45) (v := ?_) (a' := ?_) #[true, true, true, false, false, false, false, false, false, false] rfl rfl (by kernel_rfl) (fun _ _ _ h => h) (Or.inl ⟨by rfl, ?_⟩) hHeld ?_ ?_
          rotate_left
          · intro w' s0
            go_simp
            with_reducible rfl
          rotate_left
          · simp only [Act.put, List.setIfInBounds_toArray, List.set_cons_zero, List.set_cons_succ, i64_w, i32_w]
            rfl
          refine one_ (i := 3) (N := some 47) #[true, true, true, true, false, false, false, false, false, false] rfl rfl (by kernel_rfl) (by decide) (fun K hK => ?_)
          refine goes_ Tryd.func13 (by kernel_rfl) rfl #[V2] (by rfl) rfl rfl (by simp only [List.map_toArray, List.map_cons, List.map_nil]; rfl) ?_
          refine (theirs_use V2 vs2 _ (vals_below hu5 (Below.refl _ _).drew) (by omega)).mono ?_
          rintro e w6 ⟨u6, rfl, hu6, hb6⟩
          refine ⟨_, rfl, ?_⟩
          refine hK.out _ _ ((hb6.cell (p := ⟨A, 1, none⟩) z5).trans d1) (fun hHeld => ?_)
          clear hK K
          refine norm_ (a' := ?_) ?_ ?_
          rotate_left
          · show Act.put _ (some 47) _ = _
            simp only [Act.put, List.setIfInBounds_toArray, List.set_cons_zero, List.set_cons_succ, i64_w, i32_w]
            rfl
          refine one_ (i := 4) (N := some 48) #[true, true, true, true, true, false, false, false, false, false] rfl rfl (by kernel_rfl) (by decide) (fun K hK => ?_)
          refine goes_ Tryd.func12 (by kernel_rfl) rfl #[.string s1, u6] (by rfl) rfl rfl (by simp only [List.map_toArray, List.map_cons, List.map_nil]; rfl) ?_
          refine (F2 u6 _ hu6).mono ?_
          rintro e w7 ⟨ad, capd, rfl, hd1, hd2, hi7, hb7⟩
          refine ⟨_, rfl, ?_⟩
          refine hK.out _ _ ((hb7.cell (p := ⟨A, 1, none⟩) (Nat.lt_of_lt_of_le z5 hb6.size)).trans ((hb6.cell (p := ⟨A, 1, none⟩) z5).trans d1)) (fun hHeld => ?_)
          clear hK K
          refine norm_ (a' := ?_) ?_ ?_
          rotate_left
          · show Act.put _ (some 48) _ = _
            simp only [Act.put, List.setIfInBounds_toArray, List.set_cons_zero, List.set_cons_succ, i64_w, i32_w]
            rfl
          refine pure_ (i := 5) (N := some 43) (v := ?_) (a' := ?_) #[true, true, true, true, true, true, false, false, false, false] rfl rfl (by kernel_rfl) (fun _ _ _ h => h) (Or.inl ⟨by rfl, ?_⟩) ?_ ?_
          rotate_left
          · intro w'
            go_simp
            with_reducible rfl
          rotate_left
          · simp only [Act.put, List.setIfInBounds_toArray, List.set_cons_zero, List.set_cons_succ, i64_w, i32_w]
            rfl
          refine pure_ (i := 6) (N := some 49) (v := ?_) (a' := ?_) #[true, true, true, true, true, true, true, false, false, false] rfl rfl (by kernel_rfl) (fun _ _ _ h => h) (Or.inl ⟨by rfl, ?_⟩) ?_ ?_
          rotate_left
          · intro w'
            go_simp
            with_reducible rfl
          rotate_left
          · simp only [Act.put, List.setIfInBounds_toArray, List.set_cons_zero, List.set_cons_succ, i64_w, i32_w]
            rfl
          refine pure_ (i := 7) (N := some 50) (v := ?_) (a' := ?_) #[true, true, true, true, true, true, true, true, false, false] rfl rfl (by kernel_rfl) (fun _ _ _ h => h) (Or.inl ⟨by rfl, ?_⟩) ?_ ?_
          rotate_left
          · intro w'
            go_simp
            with_reducible rfl
          rotate_left
          · simp only [Act.put, List.setIfInBounds_toArray, List.set_cons_zero, List.set_cons_succ, i64_w, i32_w]
            rfl
          refine pure_ (i := 8) (N := some 9) (v := ?_) (a' := ?_) #[true, true, true, true, true, true, true, true, true, false] rfl rfl (by kernel_rfl) (fun _ _ _ h => h) (Or.inl ⟨by rfl, ?_⟩) ?_ ?_
          rotate_left
          · intro w'
            go_simp
            with_reducible rfl
          rotate_left
          · simp only [Act.put, List.setIfInBounds_toArray, List.set_cons_zero, List.set_cons_succ, i64_w, i32_w]
            rfl
          refine pure_ (i := 9) (N := some 10) (v := ?_) (a' := ?_) #[true, true, true, true, true, true, true, true, true, true] rfl rfl (by kernel_rfl) (fun _ _ _ h => h) (Or.inl ⟨by rfl, ?_⟩) ?_ ?_
          rotate_left
          · intro w'
            go_simp
            with_reducible rfl
          rotate_left
          · simp only [Act.put, List.setIfInBounds_toArray, List.set_cons_zero, List.set_cons_succ, i64_w, i32_w]
            rfl
          refine done_ (by kernel_rfl) ?_

          have hbb : Below w5.heap.size w5 w7 := (Below.refl _ w5).drew.trans (hb6.trans (hb7.mono hb6.size))
          dsimp only at hd1 hd2 hi7
          have hB7 : Below A w w7 := hB5.trans (hbb.mono (by omega))
          have z7 := Nat.lt_of_lt_of_le z5 hbb.size
          have c0 := (hbb.cell (p := ⟨A, 0, none⟩) z5).trans d0
          have c1 := (hbb.cell (p := ⟨A, 1, none⟩) z5).trans d1
          have hv7 := vals_below hv5 hbb
          have hu7 := vals_below hu5 hbb
          have hj7 := isB_up hi5 hbb
          clear hbb hb6 hb7 hu6 d0 d1 z5 hB5 hv5 hu5 F2 hi5
          by_cases h1 : e1 = 0
          · by_cases h2 : e2 = 0
            · subst h1 h2
              have hE := enc_append HT1.out.symm HT2.out.symm (by rw [size_toList, size_toList]; omega)
              have hl1 : o1.length ≤ 4000 := (enc_ok.mp HT1.out.symm).2.2
              have hl2 : o2.length ≤ 4000 := (enc_ok.mp HT2.out.symm).2.2
              have hsa : (s0 ++ s1).data.toList = s0.data.toList ++ s1.data.toList := by simp
              have hss : (s0 ++ s1).size ≤ maxLen := by
                rw [← size_toList, hsa, List.length_append, size_toList, size_toList]
                unfold maxLen; omega
              have HE : ∀ T, T = enc (s0 ++ s1).data.toList (vs1 ++ vs2) → ∀ u w, IsVals w u (vs1 ++ vs2) → Calls Tryd.prog 12 #[.string (s0 ++ s1), u] w (EncUse T w) := fun T hT u w h => by subst hT; exact encode_use (s0 ++ s1) u _ w hss h
              obtain ⟨⟨o3, e3⟩, hT3⟩ : ∃ T : List UInt8 × Int, T = if 4000 < (o1 ++ o2).length then ([], 3) else (o1 ++ o2, 0) := ⟨_, rfl⟩
              have F3 := HE (o3, e3) (by rw [hsa, hE]; exact hT3)
              have HT3 := Lib.hid hT3
              have hadd : ¬ 9223372036854775807 < s0.size + s1.size := by omega
              clear HE hE HT1 HT2 hsa hT3
              have hall : ∀ x ∈ vs1 ++ vs2, x.n < 18446744073709551616 ∧ x.s.size ≤ maxLen := by
                obtain ⟨_, _, _, _, ha, _⟩ := hv7
                obtain ⟨_, _, _, _, hb, _⟩ := hu7
                intro x hx
                rcases List.mem_append.mp hx with h | h
                · exact ha x h
                · exact hb x h
              have hAw : A ≤ w7.drew.heap.size := Nat.le_of_lt z7
              go_wp2_with fail
              refine start_ (n := 16) (S := fun w' => w'.cell? ⟨A, 0, none⟩ = some (.string s0) ∧ w'.cell? ⟨A, 1, none⟩ = some (.string s1)) (ds := [10]) #[false, false, false, false, false, false, false, false, false, false, false, false, false, false, false, false] (by kernel_rfl) rfl rfl ⟨c0, c1⟩ (fun hHeld => ?_)
              refine pure_ (i := 0) (N := some 58) (v := ?_) (a' := ?_) #[true, false, false, false, false, false, false, false, false, false, false, false, false, false, false, false] rfl rfl (by kernel_rfl) (fun _ _ _ h => h) (Or.inl ⟨by rfl, ?_⟩) ?_ ?_
              rotate_left
              · intro w'
                go_simp
                with_reducible rfl
              rotate_left
              · simp only [Act.put, List.setIfInBounds_toArray, List.set_cons_zero, List.set_cons_succ, i64_w, i32_w]
                rfl
              refine pure_ (i := 2) (N := some 60) (v := ?_) (a' := ?_) #[true, false, true, false, false, false, false, false, false, false, false, false, false, false, false, false] rfl rfl (by kernel_rfl) (fun _ _ _ h => h) (Or.inl ⟨by rfl, ?_⟩) ?_ ?_
              rotate_left
              · intro w'
                go_simp
                with_reducible rfl
              rotate_left
              · simp only [Act.put, List.setIfInBounds_toArray, List.set_cons_zero, List.set_cons_succ, i64_w, i32_w]
                rfl
              refine pure_ (i := 5) (N := some 63) (v := ?_) (a' := ?_) #[true, false, true, false, false, true, false, false, false, false, false, false, false, false, false, false] rfl rfl (by kernel_rfl) (fun _ _ _ h => h) (Or.inl ⟨by rfl, ?_⟩) ?_ ?_
              rotate_left
              · intro w'
                go_simp
                with_reducible rfl
              rotate_left
              · simp only [Act.put, List.setIfInBounds_toArray, List.set_cons_zero, List.set_cons_succ, i64_w, i32_w]
                rfl
              refine pure_ (i := 7) (N := some 65) (v := ?_) (a' := ?_) #[true, false, true, false, false, true, false, true, false, false, false, false, false, false, false, false] rfl rfl (by kernel_rfl) (fun _ _ _ h => h) (Or.inl ⟨by rfl, ?_⟩) ?_ ?_
              rotate_left
              · intro w'
                go_simp
                with_reducible rfl
              rotate_left
              · simp only [Act.put, List.setIfInBounds_toArray, List.set_cons_zero, List.set_cons_succ, i64_w, i32_w]
                rfl
              refine take_ (i := 1) (N := some 59) (v := ?_) (a' := ?_) #[true, true, true, false, false, true, false, true, false, false, false, false, false, false, false, false] rfl rfl (by kernel_rfl) (fun _ _ _ h => h) (Or.inl ⟨by rfl, ?_⟩) hHeld ?_ ?_
              rotate_left
              · rintro w' ⟨s0, s1⟩
                go_simp
                with_reducible rfl
              rotate_left
              · simp only [Act.put, List.setIfInBounds_toArray, List.set_cons_zero, List.set_cons_succ, i64_w, i32_w]
                rfl
              refine take_ (i := 3) (N := some 61) (v := ?_) (a' := ?_) #[true, true, true, true, false, true, false, true, false, false, false, false, false, false, false, false] rfl rfl (by kernel_rfl) (fun _ _ _ h => h) (Or.inl ⟨by rfl, ?_⟩) hHeld ?_ ?_
              rotate_left
              · rintro w' ⟨s0, s1⟩
                go_simp
                with_reducible rfl
              rotate_left
              · simp only [Act.put, List.setIfInBounds_toArray, List.set_cons_zero, List.set_cons_succ, i64_w, i32_w]
                rfl
              refine pure_ (i := 4) (N := some 62) (v := ?_) (a' := ?_) #[true, true, true, true, true, true, false, true, false, false, false, false, false, false, false, false] rfl rfl (by kernel_rfl) (fun _ _ _ h => h) (Or.inl ⟨by rfl, ?_⟩) ?_ ?_
              rotate_left
              · intro w'
                go_simp
                with_reducible rfl
              rotate_left
              · simp only [Act.put, List.setIfInBounds_toArray, List.set_cons_zero, List.set_cons_succ, i64_w, i32_w]
                rfl
              refine one_ (i := 6) (N := some 64) #[true, true, true, true, true, true, true, true, false, false, false, false, false, false, false, false] rfl rfl (by kernel_rfl) (by decide) (fun K hK => ?_)
              refine goes_ Tryd.func13 (by kernel_rfl) rfl #[V1] (by rfl) rfl rfl (by simp only [List.map_toArray, List.map_cons, List.map_nil]; rfl) ?_
              refine (theirs_any V1 vs1 _ (vals_below hv7 (Below.refl _ _).drew) (by omega)).mono ?_
              rintro e w8 ⟨u8, rfl, ho8, hb8⟩
              refine ⟨_, rfl, ?_⟩
              refine hK.out _ _ ⟨(hb8.cell (p := ⟨A, 0, none⟩) z7).trans c0, (hb8.cell (p := ⟨A, 1, none⟩) z7).trans c1⟩ (fun hHeld => ?_)
              clear hK K
              refine norm_ (a' := ?_) ?_ ?_
              rotate_left
              · show Act.put _ (some 64) _ = _
                simp only [Act.put, List.setIfInBounds_toArray, List.set_cons_zero, List.set_cons_succ, i64_w, i32_w]
                rfl
              refine one_ (i := 8) (N := some 66) #[true, true, true, true, true, true, true, true, true, false, false, false, false, false, false, false] rfl rfl (by kernel_rfl) (by decide) (fun K hK => ?_)
              refine goes_ Tryd.func13 (by kernel_rfl) rfl #[V2] (by rfl) rfl rfl (by simp only [List.map_toArray, List.map_cons, List.map_nil]; rfl) ?_
              refine (theirs_any V2 vs2 _ (vals_below hu7 ((Below.refl _ w7).drew.trans hb8)) (by omega)).mono ?_
              rintro e w9 ⟨u9, rfl, ho9, hb9⟩
              refine ⟨_, rfl, ?_⟩
              refine hK.out _ _ ⟨(hb9.cell (p := ⟨A, 0, none⟩) (Nat.lt_of_lt_of_le z7 hb8.size)).trans ((hb8.cell (p := ⟨A, 0, none⟩) z7).trans c0), (hb9.cell (p := ⟨A, 1, none⟩) (Nat.lt_of_lt_of_le z7 hb8.size)).trans ((hb8.cell (p := ⟨A, 1, none⟩) z7).trans c1)⟩ (fun hHeld => ?_)
              clear hK K
              refine norm_ (a' := ?_) ?_ ?_
              rotate_left
              · show Act.put _ (some 66) _ = _
                simp only [Act.put, List.setIfInBounds_toArray, List.set_cons_zero, List.set_cons_succ, i64_w, i32_w]
                rfl
              refine one_ (i := 9) (N := some 67) #[true, true, true, true, true, true, true, true, true, true, false, false, false, false, false, false] rfl rfl (by kernel_rfl) (by decide) (fun K hK => ?_)
              refine append_vals_ (by rfl) rfl (.tmp 64) (.tmp 66) rfl w7.drew.heap.size _ u8 u9 vs1 vs2 (by rfl) (by rfl) (ownv_below ho8 hb9) ho9 (by omega) (Nat.le_trans hb8.size hb9.size) ?_
              intro u10 w10 ho10 hg10
              refine hK.out _ _ ⟨(hg10.cell_far ⟨A, 0, none⟩ (Nat.lt_of_lt_of_le z7 (Nat.le_trans hb8.size hb9.size)) (by intro h; have := (ho8.lt A h.symm).1; exact absurd z7 (by show ¬ A < w7.drew.heap.size; omega))).trans ((hb9.cell (p := ⟨A, 0, none⟩) (Nat.lt_of_lt_of_le z7 hb8.size)).trans ((hb8.cell (p := ⟨A, 0, none⟩) z7).trans c0)), (hg10.cell_far ⟨A, 1, none⟩ (Nat.lt_of_lt_of_le z7 (Nat.le_trans hb8.size hb9.size)) (by intro h; have := (ho8.lt A h.symm).1; exact absurd z7 (by show ¬ A < w7.drew.heap.size; omega))).trans ((hb9.cell (p := ⟨A, 1, none⟩) (Nat.lt_of_lt_of_le z7 hb8.size)).trans ((hb8.cell (p := ⟨A, 1, none⟩) z7).trans c1))⟩ (fun hHeld => ?_)
              clear hK K
              refine norm_ (a' := ?_) ?_ ?_
              rotate_left
              · show Act.put _ (some 67) _ = _
                simp only [Act.put, List.setIfInBounds_toArray, List.set_cons_zero, List.set_cons_succ, i64_w, i32_w]
                rfl
              refine last_ (i := 10) (N := some 68) #[true, true, true, true, true, true, true, true, true, true, true, false, false, false, false, false] rfl rfl (by kernel_rfl) (by decide) (fun K hK => ?_)
              refine goes_ Tryd.func12 (by kernel_rfl) rfl #[.string (s0 ++ s1), u10] (by rfl) rfl rfl (by simp only [List.map_toArray, List.map_cons, List.map_nil]; rfl) ?_
              refine (F3 u10 _ (row_vals ho10 (by rw [List.length_append]; unfold maxLen; omega) hall)).mono ?_
              rintro e w11 ⟨ae, cape, rfl, he1, he2, hi11, hb11⟩
              refine ⟨_, rfl, ?_⟩
              refine hK.out _ _ ?_
              clear hK K
              refine norm_ (a' := ?_) ?_ ?_
              rotate_left
              · show Act.put _ (some 68) _ = _
                simp only [Act.put, List.setIfInBounds_toArray, List.set_cons_zero, List.set_cons_succ, i64_w, i32_w]
                rfl
              refine pure_ (i := 11) (N := some 57) (v := ?_) (a' := ?_) #[true, true, true, true, true, true, true, true, true, true, true, true, false, false, false, false] rfl rfl (by kernel_rfl) (fun _ _ _ h => h) (Or.inl ⟨by rfl, ?_⟩) ?_ ?_
              rotate_left
              · intro w'
                go_simp
                with_reducible rfl
              rotate_left
              · simp only [Act.put, List.setIfInBounds_toArray, List.set_cons_zero, List.set_cons_succ, i64_w, i32_w]
                rfl
              refine pure_ (i := 12) (N := some 69) (v := ?_) (a' := ?_) #[true, true, true, true, true, true, true, true, true, true, true, true, true, false, false, false] rfl rfl (by kernel_rfl) (fun _ _ _ h => h) (Or.inl ⟨by rfl, ?_⟩) ?_ ?_
              rotate_left
              · intro w'
                go_simp
                with_reducible rfl
              rotate_left
              · simp only [Act.put, List.setIfInBounds_toArray, List.set_cons_zero, List.set_cons_succ, i64_w, i32_w]
                rfl
              refine pure_ (i := 13) (N := some 70) (v := ?_) (a' := ?_) #[true, true, true, true, true, true, true, true, true, true, true, true, true, true, false, false] rfl rfl (by kernel_rfl) (fun _ _ _ h => h) (Or.inl ⟨by rfl, ?_⟩) ?_ ?_
              rotate_left
              · intro w'
                go_simp
                with_reducible rfl
              rotate_left
              · simp only [Act.put, List.setIfInBounds_toArray, List.set_cons_zero, List.set_cons_succ, i64_w, i32_w]
                rfl
              refine pure_ (i := 14) (N := some 11) (v := ?_) (a' := ?_) #[true, true, true, true, true, true, true, true, true, true, true, true, true, true, true, false] rfl rfl (by kernel_rfl) (fun _ _ _ h => h) (Or.inl ⟨by rfl, ?_⟩) ?_ ?_
              rotate_left
              · intro w'
                go_simp
                with_reducible rfl
              rotate_left
              · simp only [Act.put, List.setIfInBounds_toArray, List.set_cons_zero, List.set_cons_succ, i64_w, i32_w]
                rfl
              refine pure_ (i := 15) (N := some 12) (v := ?_) (a' := ?_) #[true, true, true, true, true, true, true, true, true, true, true, true, true, true, true, true] rfl rfl (by kernel_rfl) (fun _ _ _ h => h) (Or.inl ⟨by rfl, ?_⟩) ?_ ?_
              rotate_left
              · intro w'
                go_simp
                with_reducible rfl
              rotate_left
              · simp only [Act.put, List.setIfInBounds_toArray, List.set_cons_zero, List.set_cons_succ, i64_w, i32_w]
                rfl
              refine done_ (by kernel_rfl) ?_

              have hbX : Below w7.heap.size w7 w10 := by
                have h9 : Below w7.heap.size w7 w9 := (Below.refl _ w7).drew.trans (hb8.trans (hb9.mono hb8.size))
                exact h9.grown hg10 h9.size (fun j hj => (ho8.lt j hj).1)
              have hbb : Below w7.heap.size w7 w11 := hbX.trans (hb11.mono hbX.size)
              have hB11 : Below A w w11 := hB7.trans (hbb.mono (by omega))
              have kc1 := conv_bytes capc (isB_up hj7 hbb) 9 Tryd.underlying9
              have kc2 := conv_bytes capd (isB_up hi7 hbb) 9 Tryd.underlying9
              have hI4 : (o1.length : Int) ≤ 4000 := by omega
              have hI5 : (o2.length : Int) ≤ 4000 := by omega
              clear hbX hbb hb8 hb9 hb11 hg10 ho8 ho9 ho10 hj7 hv7 hu7 c0 c1 z7 hB7 hAw F3 hall
              by_cases h4 : 4000 < (o1 ++ o2).length
              · have h3 := HT3.out
                rw [if_pos h4] at h3
                cases h3
                have h4I : ¬ (o1.length : Int) + (o2.length : Int) ≤ 4000 := by rw [List.length_append] at h4; omega
                clear h4 hi11
                go_wp2_with fail
                go_ret
                exact ⟨by simp, by first | exact hB11 | (rw [hAA]; exact hB11)⟩
              · have h3 := HT3.out
                rw [if_neg h4] at h3
                cases h3
                have h4I : (o1.length : Int) + (o2.length : Int) ≤ 4000 := by rw [List.length_append] at h4; omega
                dsimp only at hi11
                have kc3 := conv_bytes cape hi11 9 Tryd.underlying9
                rw [List.length_append] at kc3
                have hadd2 : ¬ 9223372036854775807 < o1.length + o2.length := by omega
                have hcat : (⟨o1.toArray⟩ ++ ⟨o2.toArray⟩ : ByteArray) = ⟨(o1 ++ o2).toArray⟩ := by
                  rw [← bytes_eq (⟨o1.toArray⟩ ++ ⟨o2.toArray⟩)]
                  congr 1
                  first | done | simp
                clear h4 hi11
                go_wp2_with fail
                go_ret
                exact ⟨by simp, by first | exact hB11 | (rw [hAA]; exact hB11)⟩
            · have h2b : (e2 != 0) = true := by simpa using h2
              subst h1
              clear h2
              go_wp2_with fail
              go_ret
              exact ⟨rfl, by rw [hAA]; exact hB7⟩
          · have h1b : (e1 != 0) = true := by simpa using h1
            clear h1
            go_wp2_with fail
            go_ret
            exact ⟨rfl, by rw [hAA]; exact hB7⟩
end Go.Proofs.YtpacapcloggbkaaDoor.LCodeJoins
