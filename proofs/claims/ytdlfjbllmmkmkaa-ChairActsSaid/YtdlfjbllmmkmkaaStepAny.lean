/- What chair.step makes of any deals. -/
import Derived.Test.YtdlfjbllmmkmkaaTickAny
namespace Go.Proofs.Ytdlfjbllmmkmkaa.Chair
open Go.RowKit Go.Maps Flat ChairSpec Go.Proofs.YtdlfjbllmmkmkaaW.PrintLast
set_option linter.unusedSimpArgs false
set_option linter.unusedVariables false
set_option maxRecDepth 100000
def zDe : De := ⟨zTa fun _ => false, ⟨0, 0, 0, 0⟩, 0⟩
theorem zero_de (w : World) : (zeroValue 44).run Try.prog w = .ok (dv zDe) w := by kernel_rfl
theorem look_run {P : Program} {oi : Oper} {a : Act} {w : World} {t : TypeId} {m x : Operand} {mm key v : Value} (ho : oi.op = .lookup t m x true) (hm : a.eval m = mm) (hx : a.eval x = key) (h : (Instr.lookup t mm key true).run P w = .ok v w) : (execOp a.eval oi).run P w = .ok (.value v) w := by
  unfold execOp
  simp only [ho, hm, hx, h, Sem.run_bind, Sem.run_pure, Result.andThen_ok]
theorem grown_high {w w6 w7 : World} {row : Option Nat} {b6 : Nat} (h : w.grownBy w6 row) (k : Below b6 w6 w7) (hb : w.heap.size ≤ b6) : w.grownBy w7 row :=
  ⟨k.os.trans h.os, k.tape.trans h.tape, k.output.trans h.output, Nat.le_trans h.size k.size, fun i hi hne => (k.block i (by omega)).trans (h.block i hi hne)⟩
theorem wf64 {x : Int} (h0 : 0 ≤ x) (h1 : x < 1000) : (Lit.int .i64 x).wf = true := by
  simp only [Lit.wf, decide_eq_true_eq, Bool.and_eq_true, show IntKind.i64.min = -9223372036854775808 from rfl, show IntKind.i64.max = 9223372036854775807 from rfl]
  omega
set_option maxHeartbeats 16000000 in
theorem step_any (g bm c : Nat) (f : Int → Option De) (kd tx ep vt now sp cp : Int) (n : Nat) (hn : n ≤ 255) (h1 : 1 ≤ kd) (h4 : kd ≤ 4) (ht0 : 0 ≤ tx) (ht1 : tx < 1000) (w : World) (hg : w.cell? ⟨g, 0, none⟩ = some (.map (some bm))) (ho : MapV.Own Try.prog .i64 3 w bm (mv f) c) (hcm : c < maxLen) (hkeys : ∀ k d, f k = some d → 0 ≤ k ∧ k < 1000) :
    Calls Try.prog 24 #[.pointer (some ⟨g, 0, none⟩), .agg #[.int .i64 kd, .int .i64 tx, .int .u8 (n : Int), .int .i64 ep, .int .i64 vt, .int .i64 now, .int .i64 sp, .int .i64 cp]] w fun r w' => r = .returned (.tuple #[.int .i64 (stepC f ⟨kd, tx, n, ep, vt, now, sp, cp⟩).2.1, .int .i64 (stepC f ⟨kd, tx, n, ep, vt, now, sp, cp⟩).2.2]) ∧ (∃ c', c' ≤ c + 1 ∧ ((stepC f ⟨kd, tx, n, ep, vt, now, sp, cp⟩).2.2 ≠ 0 → c' = c) ∧ MapV.Own Try.prog .i64 3 w' bm (mv (stepC f ⟨kd, tx, n, ep, vt, now, sp, cp⟩).1) c') ∧ w.grownBy w' (some bm) := by
  have hgl := Flat.cell_lt hg
  have hbl := ho.lt
  have hgb : bm ≠ g := ho.ne_cells hg
  obtain ⟨st, HS⟩ : ∃ st, Hid (stepC f ⟨kd, tx, n, ep, vt, now, sp, cp⟩ = st) := ⟨_, Lib.hid rfl⟩
  rw [HS.out]
  have hsc := HS.out
  unfold stepC at hsc
  dsimp only at hsc
  have HSC := Lib.hid hsc
  clear hsc HS
  have HKS := Lib.hid hkeys
  clear hkeys
  by_cases hk4 : kd = 4
  · subst hk4
    have hst : st = (fun k => (f k).map (tickD now), hits f now, 0) := by rw [← HSC.out, if_pos rfl]
    subst hst
    have HTK := Lib.hid (fun W a b => tick_any g bm c f now W a b hcm HKS.out)
    have HO := Lib.hid ho
    clear HSC ho
    go_enter Try.func24, Try.ntmps24
    go_wp2_with fail
    generalize hv1 : World.alloc w _ = v1
    obtain ⟨hb1, hz1, _⟩ := alloc_facts hv1
    have hg1 := (hb1.cell (p := ⟨g, 0, none⟩) hgl).trans hg
    refine (HTK.out v1 hg1 (HO.out.below hb1 HO.out.lt)).mono ?_
    rintro r v2 ⟨rfl, ho2, hG2⟩
    have HO2 := Lib.hid ho2
    have HG2 := Lib.hid ((grown_below0 hb1 (some bm)).andThen hG2 (fun j hj => by cases hj; exact Or.inr rfl))
    clear hv1 hb1 ho2 hG2
    go_wp2_with fail
    go_ret2
    exact ⟨rfl, ⟨c, Nat.le_succ c, by first | rfl | (intro _; rfl), HO2.out⟩, HG2.out⟩
  · have hkd4 : (kd == 4) = false := beq_eq_false_iff_ne.2 hk4
    have hsc := HSC.out
    rw [if_neg hk4] at hsc
    have HSD := Lib.hid hsc
    have hkeyw := wf64 ht0 ht1
    have HKEY : Hid (keyOf Try.prog 3 (.int .i64 tx) = some (.int .i64 tx)) := Lib.hid (keyOf_int_mk Try.underlying3 hkeyw)
    have HO := Lib.hid ho
    clear hsc HSC hkeyw
    cases hf : f tx with
    | none =>
      have HF := Lib.hid hf
      clear hf
      go_enter Try.func24, Try.ntmps24
      go_wp2_with fail
      generalize hv1 : World.alloc w _ = v1
      obtain ⟨hb1, hz1, hc1⟩ := alloc_facts hv1
      have hg1 := (hb1.cell (p := ⟨g, 0, none⟩) hgl).trans hg
      have HC1 := Lib.hid hc1
      have q1 := hc1 1
      have HO1 := Lib.hid (HO.out.below hb1 HO.out.lt)
      have HB1 := Lib.hid hb1
      clear hv1 hc1 hb1
      generalize hgb0 : w.heap.size = b0 at *
      refine start_ (n := 13) (S := fun w' => Below v1.heap.size v1 w' ∧ w'.cell? ⟨g, 0, none⟩ = some (.map (some bm)) ∧ w'.cell? ⟨b0, 1, none⟩ = some (.int .i64 tx)) (ds := [11]) #[false, false, false, false, false, false, false, false, false, false, false, false, false] (by kernel_rfl) rfl rfl ⟨(still_drew v1).1, hg1, q1⟩ (fun hHeld => ?_)
      refine pure_ (i := 0) (N := some 17) (v := ?_) (a' := ?_) #[true, false, false, false, false, false, false, false, false, false, false, false, false] rfl rfl (by kernel_rfl) (fun _ _ _ h => h) (Or.inl ⟨by rfl, ?_⟩) ?_ ?_
      rotate_left
      · intro w'
        go_simp
        with_reducible rfl
      rotate_left
      · simp only [Act.put, List.setIfInBounds_toArray, List.set_cons_zero, List.set_cons_succ, i64_w, i32_w]
        rfl
      refine pure_ (i := 1) (N := some 18) (v := ?_) (a' := ?_) #[true, true, false, false, false, false, false, false, false, false, false, false, false] rfl rfl (by kernel_rfl) (fun _ _ _ h => h) (Or.inl ⟨by rfl, ?_⟩) ?_ ?_
      rotate_left
      · intro w'
        go_simp
        with_reducible rfl
      rotate_left
      · simp only [Act.put, List.setIfInBounds_toArray, List.set_cons_zero, List.set_cons_succ, i64_w, i32_w]
        rfl
      refine pure_ (i := 2) (N := some 19) (v := ?_) (a' := ?_) #[true, true, true, false, false, false, false, false, false, false, false, false, false] rfl rfl (by kernel_rfl) (fun _ _ _ h => h) (Or.inl ⟨by rfl, ?_⟩) ?_ ?_
      rotate_left
      · intro w'
        go_simp
        with_reducible rfl
      rotate_left
      · simp only [Act.put, List.setIfInBounds_toArray, List.set_cons_zero, List.set_cons_succ, i64_w, i32_w]
        rfl
      refine pure_ (i := 4) (N := some 21) (v := ?_) (a' := ?_) #[true, true, true, false, true, false, false, false, false, false, false, false, false] rfl rfl (by kernel_rfl) (fun _ _ _ h => h) (Or.inl ⟨by rfl, ?_⟩) ?_ ?_
      rotate_left
      · intro w'
        go_simp
        with_reducible rfl
      rotate_left
      · simp only [Act.put, List.setIfInBounds_toArray, List.set_cons_zero, List.set_cons_succ, i64_w, i32_w]
        rfl
      refine take_ (i := 3) (N := some 20) (v := ?_) (a' := ?_) #[true, true, true, true, true, false, false, false, false, false, false, false, false] rfl rfl (by kernel_rfl) (fun _ _ _ h => h) (Or.inl ⟨by rfl, ?_⟩) hHeld ?_ ?_
      rotate_left
      · rintro w' ⟨s0, s1, s2⟩
        go_simp
        with_reducible rfl
      rotate_left
      · simp only [Act.put, List.setIfInBounds_toArray, List.set_cons_zero, List.set_cons_succ, i64_w, i32_w]
        rfl
      refine take_ (i := 5) (N := some 22) (v := ?_) (a' := ?_) #[true, true, true, true, true, true, false, false, false, false, false, false, false] rfl rfl (by kernel_rfl) (fun _ _ _ h => h) (Or.inl ⟨by rfl, ?_⟩) hHeld ?_ ?_
      rotate_left
      · rintro w' ⟨s0, s1, s2⟩
        go_simp
        with_reducible rfl
      rotate_left
      · simp only [Act.put, List.setIfInBounds_toArray, List.set_cons_zero, List.set_cons_succ, i64_w, i32_w]
        rfl
      refine take_ (i := 6) (N := some 23) (v := ?_) (a' := ?_) #[true, true, true, true, true, true, true, false, false, false, false, false, false] rfl rfl (by kernel_rfl) (fun _ _ _ h => h) (Or.inl ⟨by rfl, ?_⟩) hHeld ?_ ?_
      rotate_left
      · rintro w' ⟨s0, s1, s2⟩
        refine Eq.trans (look_run (t := 52) (m := .tmp 20) (x := .tmp 22) (mm := .map (some bm)) (key := .int .i64 tx) (v := .tuple #[.agg (dc zDe).toArray, .bool false]) rfl rfl rfl (by have k := MapV.Own.look_ok (t := 52) (et := 44) (HO1.out.below s0 HO1.out.lt) (int_keyed Try.underlying3) Try.underlying52 (z := dv zDe) zero_de HKEY.out; rw [show mv f tx = none by simp [mv, HF.out]] at k; exact k)) ?_
        with_reducible rfl
      rotate_left
      · simp only [Act.put, List.setIfInBounds_toArray, List.set_cons_zero, List.set_cons_succ, i64_w, i32_w]
        rfl
      refine pure_ (i := 7) (N := some 16) (v := ?_) (a' := ?_) #[true, true, true, true, true, true, true, true, false, false, false, false, false] rfl rfl (by kernel_rfl) (fun _ _ _ h => h) (Or.inl ⟨by rfl, ?_⟩) ?_ ?_
      rotate_left
      · intro w'
        go_simp
        with_reducible rfl
      rotate_left
      · simp only [Act.put, List.setIfInBounds_toArray, List.set_cons_zero, List.set_cons_succ, i64_w, i32_w]
        rfl
      refine pure_ (i := 8) (N := some 24) (v := ?_) (a' := ?_) #[true, true, true, true, true, true, true, true, true, false, false, false, false] rfl rfl (by kernel_rfl) (fun _ _ _ h => h) (Or.inl ⟨by rfl, ?_⟩) ?_ ?_
      rotate_left
      · intro w'
        go_simp
        with_reducible rfl
      rotate_left
      · simp only [Act.put, List.setIfInBounds_toArray, List.set_cons_zero, List.set_cons_succ, i64_w, i32_w]
        rfl
      refine pure_ (i := 9) (N := some 25) (v := ?_) (a' := ?_) #[true, true, true, true, true, true, true, true, true, true, false, false, false] rfl rfl (by kernel_rfl) (fun _ _ _ h => h) (Or.inl ⟨by rfl, ?_⟩) ?_ ?_
      rotate_left
      · intro w'
        go_simp
        with_reducible rfl
      rotate_left
      · simp only [Act.put, List.setIfInBounds_toArray, List.set_cons_zero, List.set_cons_succ, i64_w, i32_w]
        rfl
      refine one_ (i := 10) (N := some 6) #[true, true, true, true, true, true, true, true, true, true, true, false, false] rfl rfl (by kernel_rfl) (by decide) (fun K hK => ?_)
      refine value_ (w1 := ?_) (v := ?_) (by rfl) rfl ?_ ?_
      rotate_left 2
      · go_simp
        constructor
        · rfl
        · rfl
      refine hK.out _ _ ⟨bw_alloc hHeld.1, ((bw_alloc hHeld.1).cell (p := ⟨g, 0, none⟩) (Flat.cell_lt hg1)).trans hg1, ((bw_alloc hHeld.1).cell (p := ⟨b0, 1, none⟩) (Flat.cell_lt q1)).trans q1⟩ (fun hHeld => ?_)
      clear hK K
      refine norm_ (a' := ?_) ?_ ?_
      rotate_left
      · show Act.put _ (some 6) _ = _
        simp only [Act.put, List.setIfInBounds_toArray, List.set_cons_zero, List.set_cons_succ, i64_w, i32_w]
        rfl
      refine last_ (i := 11) (N := none) #[true, true, true, true, true, true, true, true, true, true, true, true, false] rfl rfl (by kernel_rfl) (by decide) (fun K hK => ?_)
      refine store_range_ (by rfl) rfl 44 (.tmp 6) (.tmp 24) rfl (v1.drew.heap.size) 0 (dc zDe).toArray (by rfl) (by rfl) (there_de v1.drew _ _ rfl) infoDe (all_oneCell_toArray (dc_one _)) ?_
      generalize hw5 : World.setCells _ _ _ _ = w5 at *
      refine hK.out _ _ ?_
      clear hK K
      refine pure_ (i := 12) (N := some 7) (v := ?_) (a' := ?_) #[true, true, true, true, true, true, true, true, true, true, true, true, true] rfl rfl (by kernel_rfl) (fun _ _ _ h => h) (Or.inl ⟨by rfl, ?_⟩) ?_ ?_
      rotate_left
      · intro w'
        go_simp
        with_reducible rfl
      rotate_left
      · simp only [Act.put, List.setIfInBounds_toArray, List.set_cons_zero, List.set_cons_succ, i64_w, i32_w]
        rfl
      refine done_ (by kernel_rfl) ?_

      obtain ⟨hb5', hz5, hD5, ht5⟩ := new_de (v := v1.drew) (zDe) rfl hw5
      have hb5 : Below v1.heap.size v1 w5 := (Below.refl _ _).drew.trans hb5'
      have hgg : v1.drew.heap.size = v1.heap.size := rfl
      rw [hgg] at hz5 hD5 ht5
      have HO5 := Lib.hid (HO1.out.below hb5 HO1.out.lt)
      have HG5 := Lib.hid (show w.grownBy w5 (some bm) from (grown_below0 (by rw [hgb0]; exact HB1.out) (some bm)).trans (grown_below0 hb5 (some bm)))
      have hg5 := (hb5.cell (p := ⟨g, 0, none⟩) (Flat.cell_lt hg1)).trans hg1
      have r0 := (hb5.cell (p := ⟨b0, 0, none⟩) hz1).trans (HC1.out 0)
      have r1 := (hb5.cell (p := ⟨b0, 1, none⟩) hz1).trans (HC1.out 1)
      have r2 := (hb5.cell (p := ⟨b0, 2, none⟩) hz1).trans (HC1.out 2)
      have r3 := (hb5.cell (p := ⟨b0, 3, none⟩) hz1).trans (HC1.out 3)
      have r4 := (hb5.cell (p := ⟨b0, 4, none⟩) hz1).trans (HC1.out 4)
      have r5 := (hb5.cell (p := ⟨b0, 5, none⟩) hz1).trans (HC1.out 5)
      have r6 := (hb5.cell (p := ⟨b0, 6, none⟩) hz1).trans (HC1.out 6)
      have r7 := (hb5.cell (p := ⟨b0, 7, none⟩) hz1).trans (HC1.out 7)
      have HD5 := Lib.hid hD5
      have HT5 := Lib.hid ht5
      have p28 := hD5.out
      have hbm5 : bm < v1.heap.size := HO1.out.lt
      clear hw5 hb5 hb5' hD5 ht5 hg1 q1 hHeld HC1 HO1 HB1 HO
      generalize hb6 : v1.heap.size = b6 at *
      by_cases hk1 : kd = 1
      · subst hk1
        have hone : oneC f ⟨1, tx, n, ep, vt, now, sp, cp⟩ = begunD ⟨1, tx, n, ep, vt, now, sp, cp⟩ := by unfold oneC; dsimp only; rw [HF.out]; rfl
        rw [hone] at HSD
        clear hone
        have HCALL := Lib.hid (fun W => begun_re ⟨1, tx, n, ep, vt, now, sp, cp⟩ n rfl hn W)
        obtain ⟨dd, HDD⟩ : ∃ dd, Hid (begunD ⟨1, tx, n, ep, vt, now, sp, cp⟩ = dd) := ⟨_, Lib.hid rfl⟩
        rw [HDD.out] at HSD HCALL
        clear HDD
        obtain ⟨d2, e2⟩ := dd
        dsimp only at HSD HCALL
        go_wp2_with fail
        refine (HCALL.out _).mono ?_
        rintro e9 w6 ⟨rfl, hb6'⟩
        have hg6 := (hb6'.cell (p := ⟨g, 0, none⟩) (Flat.cell_lt hg5)).trans hg5
        have x1 := (hb6'.cell (p := ⟨b0, 1, none⟩) (Flat.cell_lt r1)).trans r1
        have HT6 := Lib.hid (there_below HT5.out hb6')
        have HO6 := Lib.hid (HO5.out.below hb6' HO5.out.lt)
        have HG6 := Lib.hid (HG5.out.trans (grown_below0 hb6' (some bm)))
        have hz6 : b6 < w6.heap.size := Nat.lt_of_lt_of_le hz5 hb6'.size
        clear hb6' hg5 r0 r1 r2 r3 r4 r5 r6 r7 p28 HT5 HO5 HG5 HD5
        go_upto_if 66 with (first | (refine wpList_store_mid rfl 44 _ _ rfl (b6) 0 (dc d2).toArray (by rfl) (by rfl) (HT6.out) infoDe (all_oneCell_toArray (dc_one _)) ?_; generalize hw7 : World.setCells _ _ _ _ = w7 at *))
        have hD7 := de_stored' HT6.out d2 hw7
        have hgt : b6 ≠ g := by rintro rfl; omega
        have hb0t : b0 ≠ b6 := by omega
        have hg7 := (cells_apart hw7 (Ne.symm hgt)).trans hg6
        have y1 := (cells_apart hw7 hb0t).trans x1
        have hbl7 : Below b6 w6 w7 := below_cells _ _ _ (Below.refl b6 w6) (Nat.le_refl _) hw7
        have HO7 := Lib.hid (HO6.out.below hbl7 hbm5)
        have HG7 := Lib.hid (grown_high HG6.out hbl7 (by omega))
        have HD7 := Lib.hid hD7
        have p7 := hD7.out
        clear hw7 hD7 hbl7 hg6 x1 HT6 HO6 HG6
        by_cases he : e2 = 0
        · subst he
          have hst : st = (setD f tx d2, if d2.out ≠ 0 then 1 else 0, 0) := by rw [← HSD.out, if_neg (by simp)]
          have HST := Lib.hid hst
          clear hst HSD
          go_wp2_with fail
          have hd7' : w7.rangeAt b6 0 (dc d2) := HD7.out
          refine start_ (n := 8) (S := fun w' => Below w7.heap.size w7 w' ∧ w'.cell? ⟨g, 0, none⟩ = some (.map (some bm)) ∧ w'.cell? ⟨b0, 1, none⟩ = some (.int .i64 tx) ∧ w'.rangeAt b6 0 (dc d2)) (ds := [7]) #[false, false, false, false, false, false, false, false] (by kernel_rfl) rfl rfl ⟨(still_drew w7).1, hg7, y1, hd7'⟩ (fun hHeld => ?_)
          refine pure_ (i := 0) (N := some 68) (v := ?_) (a' := ?_) #[true, false, false, false, false, false, false, false] rfl rfl (by kernel_rfl) (fun _ _ _ h => h) (Or.inl ⟨by rfl, ?_⟩) ?_ ?_
          rotate_left
          · intro w'
            go_simp
            with_reducible rfl
          rotate_left
          · simp only [Act.put, List.setIfInBounds_toArray, List.set_cons_zero, List.set_cons_succ, i64_w, i32_w]
            rfl
          refine pure_ (i := 1) (N := some 69) (v := ?_) (a' := ?_) #[true, true, false, false, false, false, false, false] rfl rfl (by kernel_rfl) (fun _ _ _ h => h) (Or.inl ⟨by rfl, ?_⟩) ?_ ?_
          rotate_left
          · intro w'
            go_simp
            with_reducible rfl
          rotate_left
          · simp only [Act.put, List.setIfInBounds_toArray, List.set_cons_zero, List.set_cons_succ, i64_w, i32_w]
            rfl
          refine pure_ (i := 2) (N := some 70) (v := ?_) (a' := ?_) #[true, true, true, false, false, false, false, false] rfl rfl (by kernel_rfl) (fun _ _ _ h => h) (Or.inl ⟨by rfl, ?_⟩) ?_ ?_
          rotate_left
          · intro w'
            go_simp
            with_reducible rfl
          rotate_left
          · simp only [Act.put, List.setIfInBounds_toArray, List.set_cons_zero, List.set_cons_succ, i64_w, i32_w]
            rfl
          refine pure_ (i := 4) (N := some 72) (v := ?_) (a' := ?_) #[true, true, true, false, true, false, false, false] rfl rfl (by kernel_rfl) (fun _ _ _ h => h) (Or.inl ⟨by rfl, ?_⟩) ?_ ?_
          rotate_left
          · intro w'
            go_simp
            with_reducible rfl
          rotate_left
          · simp only [Act.put, List.setIfInBounds_toArray, List.set_cons_zero, List.set_cons_succ, i64_w, i32_w]
            rfl
          refine take_ (i := 3) (N := some 71) (v := ?_) (a' := ?_) #[true, true, true, true, true, false, false, false] rfl rfl (by kernel_rfl) (fun _ _ _ h => h) (Or.inl ⟨by rfl, ?_⟩) hHeld ?_ ?_
          rotate_left
          · rintro w' ⟨s0, s1, s2, s3⟩
            go_simp
            with_reducible rfl
          rotate_left
          · simp only [Act.put, List.setIfInBounds_toArray, List.set_cons_zero, List.set_cons_succ, i64_w, i32_w]
            rfl
          refine take_ (i := 5) (N := some 73) (v := ?_) (a' := ?_) #[true, true, true, true, true, true, false, false] rfl rfl (by kernel_rfl) (fun _ _ _ h => h) (Or.inl ⟨by rfl, ?_⟩) hHeld ?_ ?_
          rotate_left
          · rintro w' ⟨s0, s1, s2, s3⟩
            go_simp
            with_reducible rfl
          rotate_left
          · simp only [Act.put, List.setIfInBounds_toArray, List.set_cons_zero, List.set_cons_succ, i64_w, i32_w]
            rfl
          refine take_ (i := 6) (N := some 74) (v := ?_) (a' := ?_) #[true, true, true, true, true, true, true, false] rfl rfl (by kernel_rfl) (fun _ _ _ h => h) (Or.inl ⟨by rfl, ?_⟩) hHeld ?_ ?_
          rotate_left
          · rintro w' ⟨s0, s1, s2, s3⟩
            refine Eq.trans (range_run (x := .tmp 6) (b := b6) (o := 0) (cs := dc d2) rfl rfl s3 Try.underlying44 rfl infoDe) ?_
            with_reducible rfl
          rotate_left
          · simp only [Act.put, List.setIfInBounds_toArray, List.set_cons_zero, List.set_cons_succ, i64_w, i32_w]
            rfl
          refine last_ (i := 7) (N := none) #[true, true, true, true, true, true, true, true] rfl rfl (by kernel_rfl) (by decide) (fun K hK => ?_)
          have hoW := HO7.out.below hHeld.1 HO7.out.lt
          obtain ⟨w8, hrun8, ho8, hmt8⟩ := MapV.Own.store (t := 52) (et := 44) hoW (int_keyed Try.underlying3) Try.underlying52 hcm HKEY.out (dv d2)
          refine mapset_ (by rfl) rfl (.tmp 71) (.tmp 73) (.tmp 74) 52 rfl _ _ _ (by rfl) (by rfl) (by rfl) hrun8 ?_
          have HO8 := Lib.hid ho8
          have HG8 := Lib.hid ((HG7.out.trans (grown_below0 hHeld.1 (some bm))).trans hmt8.grown)
          have p8 := (MapV.turned_cell hmt8 (g := b6) (o := 28) (by omega) (Flat.cell_lt ((hHeld.1.cell (p := ⟨b6, 28, none⟩) (Flat.cell_lt p7)).trans p7))).trans ((hHeld.1.cell (p := ⟨b6, 28, none⟩) (Flat.cell_lt p7)).trans p7)
          clear hoW hrun8 ho8 hmt8
          refine hK.out _ _ ?_
          clear hK K
          refine done_ (by kernel_rfl) ?_

          have hown8 : ∃ c', c' ≤ c + 1 ∧ ((0 : Int) ≠ 0 → c' = c) ∧ MapV.Own Try.prog .i64 3 w8 bm (mv (setD f tx d2)) c' := by
            have k := HO8.out
            rw [← mv_set] at k
            exact ⟨_, by split <;> omega, fun h => absurd rfl h, k⟩
          have HOWN8 := Lib.hid hown8
          clear hown8 HO8
          by_cases hd2 : d2.out = 0
          · have b1 : (d2.out != 0) = false := by rw [hd2]; rfl
            have b2 : (d2.out == 0) = true := by rw [hd2]; rfl
            have hn1 : (if d2.out ≠ 0 then (1 : Int) else 0) = 0 := by rw [if_neg (by simp [hd2])]
            have HN1 := Lib.hid hn1
            clear hn1
            go_wp2_with fail
            go_ret2
            rw [HST.out, HN1.out]
            exact ⟨rfl, HOWN8.out, HG8.out⟩
          · have b1 : (d2.out != 0) = true := bne_iff_ne.2 hd2
            have b2 : (d2.out == 0) = false := beq_eq_false_iff_ne.2 hd2
            have hn1 : (if d2.out ≠ 0 then (1 : Int) else 0) = 1 := if_pos hd2
            have HN1 := Lib.hid hn1
            clear hn1
            go_wp2_with fail
            go_ret2
            rw [HST.out, HN1.out]
            exact ⟨rfl, HOWN8.out, HG8.out⟩
        · have hst : st = (f, 0, e2) := by rw [← HSD.out, if_pos he]
          subst hst
          have b1 : (e2 != 0) = true := bne_iff_ne.2 he
          have b2 : (e2 == 0) = false := beq_eq_false_iff_ne.2 he
          clear HSD
          go_wp2_with fail
          go_ret2
          exact ⟨rfl, ⟨c, Nat.le_succ c, by first | rfl | (intro _; rfl), HO7.out⟩, HG7.out⟩
      · have hkb : (kd == 1) = false := beq_eq_false_iff_ne.2 hk1
        have hone : oneC f ⟨kd, tx, n, ep, vt, now, sp, cp⟩ = (zDe, 7) := by unfold oneC; dsimp only; rw [HF.out]; dsimp only; rw [if_neg hk1]; rfl
        have hst : st = (f, 0, 7) := by rw [← HSD.out, hone, if_pos (by simp)]
        subst hst
        clear hone HSD
        go_wp2_with fail
        go_ret2
        exact ⟨rfl, ⟨c, Nat.le_succ c, by first | rfl | (intro _; rfl), HO5.out⟩, HG5.out⟩
    | some d =>
      have HF := Lib.hid hf
      clear hf
      go_enter Try.func24, Try.ntmps24
      go_wp2_with fail
      generalize hv1 : World.alloc w _ = v1
      obtain ⟨hb1, hz1, hc1⟩ := alloc_facts hv1
      have hg1 := (hb1.cell (p := ⟨g, 0, none⟩) hgl).trans hg
      have HC1 := Lib.hid hc1
      have q1 := hc1 1
      have HO1 := Lib.hid (HO.out.below hb1 HO.out.lt)
      have HB1 := Lib.hid hb1
      clear hv1 hc1 hb1
      generalize hgb0 : w.heap.size = b0 at *
      refine start_ (n := 13) (S := fun w' => Below v1.heap.size v1 w' ∧ w'.cell? ⟨g, 0, none⟩ = some (.map (some bm)) ∧ w'.cell? ⟨b0, 1, none⟩ = some (.int .i64 tx)) (ds := [11]) #[false, false, false, false, false, false, false, false, false, false, false, false, false] (by kernel_rfl) rfl rfl ⟨(still_drew v1).1, hg1, q1⟩ (fun hHeld => ?_)
      refine pure_ (i := 0) (N := some 17) (v := ?_) (a' := ?_) #[true, false, false, false, false, false, false, false, false, false, false, false, false] rfl rfl (by kernel_rfl) (fun _ _ _ h => h) (Or.inl ⟨by rfl, ?_⟩) ?_ ?_
      rotate_left
      · intro w'
        go_simp
        with_reducible rfl
      rotate_left
      · simp only [Act.put, List.setIfInBounds_toArray, List.set_cons_zero, List.set_cons_succ, i64_w, i32_w]
        rfl
      refine pure_ (i := 1) (N := some 18) (v := ?_) (a' := ?_) #[true, true, false, false, false, false, false, false, false, false, false, false, false] rfl rfl (by kernel_rfl) (fun _ _ _ h => h) (Or.inl ⟨by rfl, ?_⟩) ?_ ?_
      rotate_left
      · intro w'
        go_simp
        with_reducible rfl
      rotate_left
      · simp only [Act.put, List.setIfInBounds_toArray, List.set_cons_zero, List.set_cons_succ, i64_w, i32_w]
        rfl
      refine pure_ (i := 2) (N := some 19) (v := ?_) (a' := ?_) #[true, true, true, false, false, false, false, false, false, false, false, false, false] rfl rfl (by kernel_rfl) (fun _ _ _ h => h) (Or.inl ⟨by rfl, ?_⟩) ?_ ?_
      rotate_left
      · intro w'
        go_simp
        with_reducible rfl
      rotate_left
      · simp only [Act.put, List.setIfInBounds_toArray, List.set_cons_zero, List.set_cons_succ, i64_w, i32_w]
        rfl
      refine pure_ (i := 4) (N := some 21) (v := ?_) (a' := ?_) #[true, true, true, false, true, false, false, false, false, false, false, false, false] rfl rfl (by kernel_rfl) (fun _ _ _ h => h) (Or.inl ⟨by rfl, ?_⟩) ?_ ?_
      rotate_left
      · intro w'
        go_simp
        with_reducible rfl
      rotate_left
      · simp only [Act.put, List.setIfInBounds_toArray, List.set_cons_zero, List.set_cons_succ, i64_w, i32_w]
        rfl
      refine take_ (i := 3) (N := some 20) (v := ?_) (a' := ?_) #[true, true, true, true, true, false, false, false, false, false, false, false, false] rfl rfl (by kernel_rfl) (fun _ _ _ h => h) (Or.inl ⟨by rfl, ?_⟩) hHeld ?_ ?_
      rotate_left
      · rintro w' ⟨s0, s1, s2⟩
        go_simp
        with_reducible rfl
      rotate_left
      · simp only [Act.put, List.setIfInBounds_toArray, List.set_cons_zero, List.set_cons_succ, i64_w, i32_w]
        rfl
      refine take_ (i := 5) (N := some 22) (v := ?_) (a' := ?_) #[true, true, true, true, true, true, false, false, false, false, false, false, false] rfl rfl (by kernel_rfl) (fun _ _ _ h => h) (Or.inl ⟨by rfl, ?_⟩) hHeld ?_ ?_
      rotate_left
      · rintro w' ⟨s0, s1, s2⟩
        go_simp
        with_reducible rfl
      rotate_left
      · simp only [Act.put, List.setIfInBounds_toArray, List.set_cons_zero, List.set_cons_succ, i64_w, i32_w]
        rfl
      refine take_ (i := 6) (N := some 23) (v := ?_) (a' := ?_) #[true, true, true, true, true, true, true, false, false, false, false, false, false] rfl rfl (by kernel_rfl) (fun _ _ _ h => h) (Or.inl ⟨by rfl, ?_⟩) hHeld ?_ ?_
      rotate_left
      · rintro w' ⟨s0, s1, s2⟩
        refine Eq.trans (look_run (t := 52) (m := .tmp 20) (x := .tmp 22) (mm := .map (some bm)) (key := .int .i64 tx) (v := .tuple #[.agg (dc d).toArray, .bool true]) rfl rfl rfl (by have k := MapV.Own.look_ok (t := 52) (et := 44) (HO1.out.below s0 HO1.out.lt) (int_keyed Try.underlying3) Try.underlying52 (z := dv zDe) zero_de HKEY.out; rw [show mv f tx = some (dv d) by simp [mv, HF.out]] at k; exact k)) ?_
        with_reducible rfl
      rotate_left
      · simp only [Act.put, List.setIfInBounds_toArray, List.set_cons_zero, List.set_cons_succ, i64_w, i32_w]
        rfl
      refine pure_ (i := 7) (N := some 16) (v := ?_) (a' := ?_) #[true, true, true, true, true, true, true, true, false, false, false, false, false] rfl rfl (by kernel_rfl) (fun _ _ _ h => h) (Or.inl ⟨by rfl, ?_⟩) ?_ ?_
      rotate_left
      · intro w'
        go_simp
        with_reducible rfl
      rotate_left
      · simp only [Act.put, List.setIfInBounds_toArray, List.set_cons_zero, List.set_cons_succ, i64_w, i32_w]
        rfl
      refine pure_ (i := 8) (N := some 24) (v := ?_) (a' := ?_) #[true, true, true, true, true, true, true, true, true, false, false, false, false] rfl rfl (by kernel_rfl) (fun _ _ _ h => h) (Or.inl ⟨by rfl, ?_⟩) ?_ ?_
      rotate_left
      · intro w'
        go_simp
        with_reducible rfl
      rotate_left
      · simp only [Act.put, List.setIfInBounds_toArray, List.set_cons_zero, List.set_cons_succ, i64_w, i32_w]
        rfl
      refine pure_ (i := 9) (N := some 25) (v := ?_) (a' := ?_) #[true, true, true, true, true, true, true, true, true, true, false, false, false] rfl rfl (by kernel_rfl) (fun _ _ _ h => h) (Or.inl ⟨by rfl, ?_⟩) ?_ ?_
      rotate_left
      · intro w'
        go_simp
        with_reducible rfl
      rotate_left
      · simp only [Act.put, List.setIfInBounds_toArray, List.set_cons_zero, List.set_cons_succ, i64_w, i32_w]
        rfl
      refine one_ (i := 10) (N := some 6) #[true, true, true, true, true, true, true, true, true, true, true, false, false] rfl rfl (by kernel_rfl) (by decide) (fun K hK => ?_)
      refine value_ (w1 := ?_) (v := ?_) (by rfl) rfl ?_ ?_
      rotate_left 2
      · go_simp
        constructor
        · rfl
        · rfl
      refine hK.out _ _ ⟨bw_alloc hHeld.1, ((bw_alloc hHeld.1).cell (p := ⟨g, 0, none⟩) (Flat.cell_lt hg1)).trans hg1, ((bw_alloc hHeld.1).cell (p := ⟨b0, 1, none⟩) (Flat.cell_lt q1)).trans q1⟩ (fun hHeld => ?_)
      clear hK K
      refine norm_ (a' := ?_) ?_ ?_
      rotate_left
      · show Act.put _ (some 6) _ = _
        simp only [Act.put, List.setIfInBounds_toArray, List.set_cons_zero, List.set_cons_succ, i64_w, i32_w]
        rfl
      refine last_ (i := 11) (N := none) #[true, true, true, true, true, true, true, true, true, true, true, true, false] rfl rfl (by kernel_rfl) (by decide) (fun K hK => ?_)
      refine store_range_ (by rfl) rfl 44 (.tmp 6) (.tmp 24) rfl (v1.drew.heap.size) 0 (dc d).toArray (by rfl) (by rfl) (there_de v1.drew _ _ rfl) infoDe (all_oneCell_toArray (dc_one _)) ?_
      generalize hw5 : World.setCells _ _ _ _ = w5 at *
      refine hK.out _ _ ?_
      clear hK K
      refine pure_ (i := 12) (N := some 7) (v := ?_) (a' := ?_) #[true, true, true, true, true, true, true, true, true, true, true, true, true] rfl rfl (by kernel_rfl) (fun _ _ _ h => h) (Or.inl ⟨by rfl, ?_⟩) ?_ ?_
      rotate_left
      · intro w'
        go_simp
        with_reducible rfl
      rotate_left
      · simp only [Act.put, List.setIfInBounds_toArray, List.set_cons_zero, List.set_cons_succ, i64_w, i32_w]
        rfl
      refine done_ (by kernel_rfl) ?_

      obtain ⟨hb5', hz5, hD5, ht5⟩ := new_de (v := v1.drew) (d) rfl hw5
      have hb5 : Below v1.heap.size v1 w5 := (Below.refl _ _).drew.trans hb5'
      have hgg : v1.drew.heap.size = v1.heap.size := rfl
      rw [hgg] at hz5 hD5 ht5
      have HO5 := Lib.hid (HO1.out.below hb5 HO1.out.lt)
      have HG5 := Lib.hid (show w.grownBy w5 (some bm) from (grown_below0 (by rw [hgb0]; exact HB1.out) (some bm)).trans (grown_below0 hb5 (some bm)))
      have hg5 := (hb5.cell (p := ⟨g, 0, none⟩) (Flat.cell_lt hg1)).trans hg1
      have r0 := (hb5.cell (p := ⟨b0, 0, none⟩) hz1).trans (HC1.out 0)
      have r1 := (hb5.cell (p := ⟨b0, 1, none⟩) hz1).trans (HC1.out 1)
      have r2 := (hb5.cell (p := ⟨b0, 2, none⟩) hz1).trans (HC1.out 2)
      have r3 := (hb5.cell (p := ⟨b0, 3, none⟩) hz1).trans (HC1.out 3)
      have r4 := (hb5.cell (p := ⟨b0, 4, none⟩) hz1).trans (HC1.out 4)
      have r5 := (hb5.cell (p := ⟨b0, 5, none⟩) hz1).trans (HC1.out 5)
      have r6 := (hb5.cell (p := ⟨b0, 6, none⟩) hz1).trans (HC1.out 6)
      have r7 := (hb5.cell (p := ⟨b0, 7, none⟩) hz1).trans (HC1.out 7)
      have HD5 := Lib.hid hD5
      have HT5 := Lib.hid ht5
      have p28 := hD5.out
      have hbm5 : bm < v1.heap.size := HO1.out.lt
      clear hw5 hb5 hb5' hD5 ht5 hg1 q1 hHeld HC1 HO1 HB1 HO
      generalize hb6 : v1.heap.size = b6 at *
      by_cases hk1 : kd = 1
      · subst hk1
        have hone : oneC f ⟨1, tx, n, ep, vt, now, sp, cp⟩ = (d, 8) := by unfold oneC; dsimp only; rw [HF.out]; rfl
        have hst : st = (f, 0, 8) := by rw [← HSD.out, hone, if_pos (by simp)]
        subst hst
        clear hone HSD
        go_wp2_with fail
        go_ret2
        exact ⟨rfl, ⟨c, Nat.le_succ c, by first | rfl | (intro _; rfl), HO5.out⟩, HG5.out⟩
      · have hkb : (kd == 1) = false := beq_eq_false_iff_ne.2 hk1
        by_cases hout : d.out = 0
        · have hob : (d.out == 0) = true := by rw [hout]; rfl
          have hon : (d.out != 0) = false := by rw [hout]; rfl
          by_cases hk2 : kd = 2
          · subst hk2
            have hone : oneC f ⟨2, tx, n, ep, vt, now, sp, cp⟩ = voteD d ⟨2, tx, n, ep, vt, now, sp, cp⟩ := by unfold oneC; dsimp only; rw [HF.out]; dsimp only; rw [if_neg (by decide), if_neg (by rw [hout]; decide), if_pos rfl]
            rw [hone] at HSD
            clear hone
            have HCALL := Lib.hid (fun W => vote_de d ⟨2, tx, n, ep, vt, now, sp, cp⟩ n rfl hn W)
            obtain ⟨dd, HDD⟩ : ∃ dd, Hid (voteD d ⟨2, tx, n, ep, vt, now, sp, cp⟩ = dd) := ⟨_, Lib.hid rfl⟩
            rw [HDD.out] at HSD HCALL
            clear HDD
            obtain ⟨d2, e2⟩ := dd
            dsimp only at HSD HCALL
            go_wp2_with (refine wpList_load_mid rfl 44 _ rfl (b6) 0 rfl (dc d) _ (HD5.out) Try.underlying44 rfl infoDe ?_)
            refine (HCALL.out _).mono ?_
            rintro e9 w6 ⟨rfl, hb6'⟩
            have hg6 := (hb6'.cell (p := ⟨g, 0, none⟩) (Flat.cell_lt hg5)).trans hg5
            have x1 := (hb6'.cell (p := ⟨b0, 1, none⟩) (Flat.cell_lt r1)).trans r1
            have HT6 := Lib.hid (there_below HT5.out hb6')
            have HO6 := Lib.hid (HO5.out.below hb6' HO5.out.lt)
            have HG6 := Lib.hid (HG5.out.trans (grown_below0 hb6' (some bm)))
            have hz6 : b6 < w6.heap.size := Nat.lt_of_lt_of_le hz5 hb6'.size
            clear hb6' hg5 r0 r1 r2 r3 r4 r5 r6 r7 p28 HT5 HO5 HG5 HD5
            go_upto_if 66 with (first | (refine wpList_store_mid rfl 44 _ _ rfl (b6) 0 (dc d2).toArray (by rfl) (by rfl) (HT6.out) infoDe (all_oneCell_toArray (dc_one _)) ?_; generalize hw7 : World.setCells _ _ _ _ = w7 at *))
            have hD7 := de_stored' HT6.out d2 hw7
            have hgt : b6 ≠ g := by rintro rfl; omega
            have hb0t : b0 ≠ b6 := by omega
            have hg7 := (cells_apart hw7 (Ne.symm hgt)).trans hg6
            have y1 := (cells_apart hw7 hb0t).trans x1
            have hbl7 : Below b6 w6 w7 := below_cells _ _ _ (Below.refl b6 w6) (Nat.le_refl _) hw7
            have HO7 := Lib.hid (HO6.out.below hbl7 hbm5)
            have HG7 := Lib.hid (grown_high HG6.out hbl7 (by omega))
            have HD7 := Lib.hid hD7
            have p7 := hD7.out
            clear hw7 hD7 hbl7 hg6 x1 HT6 HO6 HG6
            by_cases he : e2 = 0
            · subst he
              have hst : st = (setD f tx d2, if d2.out ≠ 0 then 1 else 0, 0) := by rw [← HSD.out, if_neg (by simp)]
              have HST := Lib.hid hst
              clear hst HSD
              go_wp2_with fail
              have hd7' : w7.rangeAt b6 0 (dc d2) := HD7.out
              refine start_ (n := 8) (S := fun w' => Below w7.heap.size w7 w' ∧ w'.cell? ⟨g, 0, none⟩ = some (.map (some bm)) ∧ w'.cell? ⟨b0, 1, none⟩ = some (.int .i64 tx) ∧ w'.rangeAt b6 0 (dc d2)) (ds := [7]) #[false, false, false, false, false, false, false, false] (by kernel_rfl) rfl rfl ⟨(still_drew w7).1, hg7, y1, hd7'⟩ (fun hHeld => ?_)
              refine pure_ (i := 0) (N := some 68) (v := ?_) (a' := ?_) #[true, false, false, false, false, false, false, false] rfl rfl (by kernel_rfl) (fun _ _ _ h => h) (Or.inl ⟨by rfl, ?_⟩) ?_ ?_
              rotate_left
              · intro w'
                go_simp
                with_reducible rfl
              rotate_left
              · simp only [Act.put, List.setIfInBounds_toArray, List.set_cons_zero, List.set_cons_succ, i64_w, i32_w]
                rfl
              refine pure_ (i := 1) (N := some 69) (v := ?_) (a' := ?_) #[true, true, false, false, false, false, false, false] rfl rfl (by kernel_rfl) (fun _ _ _ h => h) (Or.inl ⟨by rfl, ?_⟩) ?_ ?_
              rotate_left
              · intro w'
                go_simp
                with_reducible rfl
              rotate_left
              · simp only [Act.put, List.setIfInBounds_toArray, List.set_cons_zero, List.set_cons_succ, i64_w, i32_w]
                rfl
              refine pure_ (i := 2) (N := some 70) (v := ?_) (a' := ?_) #[true, true, true, false, false, false, false, false] rfl rfl (by kernel_rfl) (fun _ _ _ h => h) (Or.inl ⟨by rfl, ?_⟩) ?_ ?_
              rotate_left
              · intro w'
                go_simp
                with_reducible rfl
              rotate_left
              · simp only [Act.put, List.setIfInBounds_toArray, List.set_cons_zero, List.set_cons_succ, i64_w, i32_w]
                rfl
              refine pure_ (i := 4) (N := some 72) (v := ?_) (a' := ?_) #[true, true, true, false, true, false, false, false] rfl rfl (by kernel_rfl) (fun _ _ _ h => h) (Or.inl ⟨by rfl, ?_⟩) ?_ ?_
              rotate_left
              · intro w'
                go_simp
                with_reducible rfl
              rotate_left
              · simp only [Act.put, List.setIfInBounds_toArray, List.set_cons_zero, List.set_cons_succ, i64_w, i32_w]
                rfl
              refine take_ (i := 3) (N := some 71) (v := ?_) (a' := ?_) #[true, true, true, true, true, false, false, false] rfl rfl (by kernel_rfl) (fun _ _ _ h => h) (Or.inl ⟨by rfl, ?_⟩) hHeld ?_ ?_
              rotate_left
              · rintro w' ⟨s0, s1, s2, s3⟩
                go_simp
                with_reducible rfl
              rotate_left
              · simp only [Act.put, List.setIfInBounds_toArray, List.set_cons_zero, List.set_cons_succ, i64_w, i32_w]
                rfl
              refine take_ (i := 5) (N := some 73) (v := ?_) (a' := ?_) #[true, true, true, true, true, true, false, false] rfl rfl (by kernel_rfl) (fun _ _ _ h => h) (Or.inl ⟨by rfl, ?_⟩) hHeld ?_ ?_
              rotate_left
              · rintro w' ⟨s0, s1, s2, s3⟩
                go_simp
                with_reducible rfl
              rotate_left
              · simp only [Act.put, List.setIfInBounds_toArray, List.set_cons_zero, List.set_cons_succ, i64_w, i32_w]
                rfl
              refine take_ (i := 6) (N := some 74) (v := ?_) (a' := ?_) #[true, true, true, true, true, true, true, false] rfl rfl (by kernel_rfl) (fun _ _ _ h => h) (Or.inl ⟨by rfl, ?_⟩) hHeld ?_ ?_
              rotate_left
              · rintro w' ⟨s0, s1, s2, s3⟩
                refine Eq.trans (range_run (x := .tmp 6) (b := b6) (o := 0) (cs := dc d2) rfl rfl s3 Try.underlying44 rfl infoDe) ?_
                with_reducible rfl
              rotate_left
              · simp only [Act.put, List.setIfInBounds_toArray, List.set_cons_zero, List.set_cons_succ, i64_w, i32_w]
                rfl
              refine last_ (i := 7) (N := none) #[true, true, true, true, true, true, true, true] rfl rfl (by kernel_rfl) (by decide) (fun K hK => ?_)
              have hoW := HO7.out.below hHeld.1 HO7.out.lt
              obtain ⟨w8, hrun8, ho8, hmt8⟩ := MapV.Own.store (t := 52) (et := 44) hoW (int_keyed Try.underlying3) Try.underlying52 hcm HKEY.out (dv d2)
              refine mapset_ (by rfl) rfl (.tmp 71) (.tmp 73) (.tmp 74) 52 rfl _ _ _ (by rfl) (by rfl) (by rfl) hrun8 ?_
              have HO8 := Lib.hid ho8
              have HG8 := Lib.hid ((HG7.out.trans (grown_below0 hHeld.1 (some bm))).trans hmt8.grown)
              have p8 := (MapV.turned_cell hmt8 (g := b6) (o := 28) (by omega) (Flat.cell_lt ((hHeld.1.cell (p := ⟨b6, 28, none⟩) (Flat.cell_lt p7)).trans p7))).trans ((hHeld.1.cell (p := ⟨b6, 28, none⟩) (Flat.cell_lt p7)).trans p7)
              clear hoW hrun8 ho8 hmt8
              refine hK.out _ _ ?_
              clear hK K
              refine done_ (by kernel_rfl) ?_

              have hown8 : ∃ c', c' ≤ c + 1 ∧ ((0 : Int) ≠ 0 → c' = c) ∧ MapV.Own Try.prog .i64 3 w8 bm (mv (setD f tx d2)) c' := by
                have k := HO8.out
                rw [← mv_set] at k
                exact ⟨_, by split <;> omega, fun h => absurd rfl h, k⟩
              have HOWN8 := Lib.hid hown8
              clear hown8 HO8
              by_cases hd2 : d2.out = 0
              · have b1 : (d2.out != 0) = false := by rw [hd2]; rfl
                have b2 : (d2.out == 0) = true := by rw [hd2]; rfl
                have hn1 : (if d2.out ≠ 0 then (1 : Int) else 0) = 0 := by rw [if_neg (by simp [hd2])]
                have HN1 := Lib.hid hn1
                clear hn1
                go_wp2_with fail
                go_ret2
                rw [HST.out, HN1.out]
                exact ⟨rfl, HOWN8.out, HG8.out⟩
              · have b1 : (d2.out != 0) = true := bne_iff_ne.2 hd2
                have b2 : (d2.out == 0) = false := beq_eq_false_iff_ne.2 hd2
                have hn1 : (if d2.out ≠ 0 then (1 : Int) else 0) = 1 := if_pos hd2
                have HN1 := Lib.hid hn1
                clear hn1
                go_wp2_with fail
                go_ret2
                rw [HST.out, HN1.out]
                exact ⟨rfl, HOWN8.out, HG8.out⟩
            · have hst : st = (f, 0, e2) := by rw [← HSD.out, if_pos he]
              subst hst
              have b1 : (e2 != 0) = true := bne_iff_ne.2 he
              have b2 : (e2 == 0) = false := beq_eq_false_iff_ne.2 he
              clear HSD
              go_wp2_with fail
              go_ret2
              exact ⟨rfl, ⟨c, Nat.le_succ c, by first | rfl | (intro _; rfl), HO7.out⟩, HG7.out⟩
          · have hkc : (kd == 2) = false := beq_eq_false_iff_ne.2 hk2
            have hone : oneC f ⟨kd, tx, n, ep, vt, now, sp, cp⟩ = extendD d ⟨kd, tx, n, ep, vt, now, sp, cp⟩ := by unfold oneC; dsimp only; rw [HF.out]; dsimp only; rw [if_neg hk1, if_neg (by rw [hout]; decide), if_neg hk2]
            rw [hone] at HSD
            clear hone
            have HCALL := Lib.hid (fun W => extend_de d ⟨kd, tx, n, ep, vt, now, sp, cp⟩ n rfl hn W)
            obtain ⟨dd, HDD⟩ : ∃ dd, Hid (extendD d ⟨kd, tx, n, ep, vt, now, sp, cp⟩ = dd) := ⟨_, Lib.hid rfl⟩
            rw [HDD.out] at HSD HCALL
            clear HDD
            obtain ⟨d2, e2⟩ := dd
            dsimp only at HSD HCALL
            go_wp2_with (refine wpList_load_mid rfl 44 _ rfl (b6) 0 rfl (dc d) _ (HD5.out) Try.underlying44 rfl infoDe ?_)
            refine (HCALL.out _).mono ?_
            rintro e9 w6 ⟨rfl, hb6'⟩
            have hg6 := (hb6'.cell (p := ⟨g, 0, none⟩) (Flat.cell_lt hg5)).trans hg5
            have x1 := (hb6'.cell (p := ⟨b0, 1, none⟩) (Flat.cell_lt r1)).trans r1
            have HT6 := Lib.hid (there_below HT5.out hb6')
            have HO6 := Lib.hid (HO5.out.below hb6' HO5.out.lt)
            have HG6 := Lib.hid (HG5.out.trans (grown_below0 hb6' (some bm)))
            have hz6 : b6 < w6.heap.size := Nat.lt_of_lt_of_le hz5 hb6'.size
            clear hb6' hg5 r0 r1 r2 r3 r4 r5 r6 r7 p28 HT5 HO5 HG5 HD5
            go_upto_if 66 with (first | (refine wpList_store_mid rfl 44 _ _ rfl (b6) 0 (dc d2).toArray (by rfl) (by rfl) (HT6.out) infoDe (all_oneCell_toArray (dc_one _)) ?_; generalize hw7 : World.setCells _ _ _ _ = w7 at *))
            have hD7 := de_stored' HT6.out d2 hw7
            have hgt : b6 ≠ g := by rintro rfl; omega
            have hb0t : b0 ≠ b6 := by omega
            have hg7 := (cells_apart hw7 (Ne.symm hgt)).trans hg6
            have y1 := (cells_apart hw7 hb0t).trans x1
            have hbl7 : Below b6 w6 w7 := below_cells _ _ _ (Below.refl b6 w6) (Nat.le_refl _) hw7
            have HO7 := Lib.hid (HO6.out.below hbl7 hbm5)
            have HG7 := Lib.hid (grown_high HG6.out hbl7 (by omega))
            have HD7 := Lib.hid hD7
            have p7 := hD7.out
            clear hw7 hD7 hbl7 hg6 x1 HT6 HO6 HG6
            by_cases he : e2 = 0
            · subst he
              have hst : st = (setD f tx d2, if d2.out ≠ 0 then 1 else 0, 0) := by rw [← HSD.out, if_neg (by simp)]
              have HST := Lib.hid hst
              clear hst HSD
              go_wp2_with fail
              have hd7' : w7.rangeAt b6 0 (dc d2) := HD7.out
              refine start_ (n := 8) (S := fun w' => Below w7.heap.size w7 w' ∧ w'.cell? ⟨g, 0, none⟩ = some (.map (some bm)) ∧ w'.cell? ⟨b0, 1, none⟩ = some (.int .i64 tx) ∧ w'.rangeAt b6 0 (dc d2)) (ds := [7]) #[false, false, false, false, false, false, false, false] (by kernel_rfl) rfl rfl ⟨(still_drew w7).1, hg7, y1, hd7'⟩ (fun hHeld => ?_)
              refine pure_ (i := 0) (N := some 68) (v := ?_) (a' := ?_) #[true, false, false, false, false, false, false, false] rfl rfl (by kernel_rfl) (fun _ _ _ h => h) (Or.inl ⟨by rfl, ?_⟩) ?_ ?_
              rotate_left
              · intro w'
                go_simp
                with_reducible rfl
              rotate_left
              · simp only [Act.put, List.setIfInBounds_toArray, List.set_cons_zero, List.set_cons_succ, i64_w, i32_w]
                rfl
              refine pure_ (i := 1) (N := some 69) (v := ?_) (a' := ?_) #[true, true, false, false, false, false, false, false] rfl rfl (by kernel_rfl) (fun _ _ _ h => h) (Or.inl ⟨by rfl, ?_⟩) ?_ ?_
              rotate_left
              · intro w'
                go_simp
                with_reducible rfl
              rotate_left
              · simp only [Act.put, List.setIfInBounds_toArray, List.set_cons_zero, List.set_cons_succ, i64_w, i32_w]
                rfl
              refine pure_ (i := 2) (N := some 70) (v := ?_) (a' := ?_) #[true, true, true, false, false, false, false, false] rfl rfl (by kernel_rfl) (fun _ _ _ h => h) (Or.inl ⟨by rfl, ?_⟩) ?_ ?_
              rotate_left
              · intro w'
                go_simp
                with_reducible rfl
              rotate_left
              · simp only [Act.put, List.setIfInBounds_toArray, List.set_cons_zero, List.set_cons_succ, i64_w, i32_w]
                rfl
              refine pure_ (i := 4) (N := some 72) (v := ?_) (a' := ?_) #[true, true, true, false, true, false, false, false] rfl rfl (by kernel_rfl) (fun _ _ _ h => h) (Or.inl ⟨by rfl, ?_⟩) ?_ ?_
              rotate_left
              · intro w'
                go_simp
                with_reducible rfl
              rotate_left
              · simp only [Act.put, List.setIfInBounds_toArray, List.set_cons_zero, List.set_cons_succ, i64_w, i32_w]
                rfl
              refine take_ (i := 3) (N := some 71) (v := ?_) (a' := ?_) #[true, true, true, true, true, false, false, false] rfl rfl (by kernel_rfl) (fun _ _ _ h => h) (Or.inl ⟨by rfl, ?_⟩) hHeld ?_ ?_
              rotate_left
              · rintro w' ⟨s0, s1, s2, s3⟩
                go_simp
                with_reducible rfl
              rotate_left
              · simp only [Act.put, List.setIfInBounds_toArray, List.set_cons_zero, List.set_cons_succ, i64_w, i32_w]
                rfl
              refine take_ (i := 5) (N := some 73) (v := ?_) (a' := ?_) #[true, true, true, true, true, true, false, false] rfl rfl (by kernel_rfl) (fun _ _ _ h => h) (Or.inl ⟨by rfl, ?_⟩) hHeld ?_ ?_
              rotate_left
              · rintro w' ⟨s0, s1, s2, s3⟩
                go_simp
                with_reducible rfl
              rotate_left
              · simp only [Act.put, List.setIfInBounds_toArray, List.set_cons_zero, List.set_cons_succ, i64_w, i32_w]
                rfl
              refine take_ (i := 6) (N := some 74) (v := ?_) (a' := ?_) #[true, true, true, true, true, true, true, false] rfl rfl (by kernel_rfl) (fun _ _ _ h => h) (Or.inl ⟨by rfl, ?_⟩) hHeld ?_ ?_
              rotate_left
              · rintro w' ⟨s0, s1, s2, s3⟩
                refine Eq.trans (range_run (x := .tmp 6) (b := b6) (o := 0) (cs := dc d2) rfl rfl s3 Try.underlying44 rfl infoDe) ?_
                with_reducible rfl
              rotate_left
              · simp only [Act.put, List.setIfInBounds_toArray, List.set_cons_zero, List.set_cons_succ, i64_w, i32_w]
                rfl
              refine last_ (i := 7) (N := none) #[true, true, true, true, true, true, true, true] rfl rfl (by kernel_rfl) (by decide) (fun K hK => ?_)
              have hoW := HO7.out.below hHeld.1 HO7.out.lt
              obtain ⟨w8, hrun8, ho8, hmt8⟩ := MapV.Own.store (t := 52) (et := 44) hoW (int_keyed Try.underlying3) Try.underlying52 hcm HKEY.out (dv d2)
              refine mapset_ (by rfl) rfl (.tmp 71) (.tmp 73) (.tmp 74) 52 rfl _ _ _ (by rfl) (by rfl) (by rfl) hrun8 ?_
              have HO8 := Lib.hid ho8
              have HG8 := Lib.hid ((HG7.out.trans (grown_below0 hHeld.1 (some bm))).trans hmt8.grown)
              have p8 := (MapV.turned_cell hmt8 (g := b6) (o := 28) (by omega) (Flat.cell_lt ((hHeld.1.cell (p := ⟨b6, 28, none⟩) (Flat.cell_lt p7)).trans p7))).trans ((hHeld.1.cell (p := ⟨b6, 28, none⟩) (Flat.cell_lt p7)).trans p7)
              clear hoW hrun8 ho8 hmt8
              refine hK.out _ _ ?_
              clear hK K
              refine done_ (by kernel_rfl) ?_

              have hown8 : ∃ c', c' ≤ c + 1 ∧ ((0 : Int) ≠ 0 → c' = c) ∧ MapV.Own Try.prog .i64 3 w8 bm (mv (setD f tx d2)) c' := by
                have k := HO8.out
                rw [← mv_set] at k
                exact ⟨_, by split <;> omega, fun h => absurd rfl h, k⟩
              have HOWN8 := Lib.hid hown8
              clear hown8 HO8
              by_cases hd2 : d2.out = 0
              · have b1 : (d2.out != 0) = false := by rw [hd2]; rfl
                have b2 : (d2.out == 0) = true := by rw [hd2]; rfl
                have hn1 : (if d2.out ≠ 0 then (1 : Int) else 0) = 0 := by rw [if_neg (by simp [hd2])]
                have HN1 := Lib.hid hn1
                clear hn1
                go_wp2_with fail
                go_ret2
                rw [HST.out, HN1.out]
                exact ⟨rfl, HOWN8.out, HG8.out⟩
              · have b1 : (d2.out != 0) = true := bne_iff_ne.2 hd2
                have b2 : (d2.out == 0) = false := beq_eq_false_iff_ne.2 hd2
                have hn1 : (if d2.out ≠ 0 then (1 : Int) else 0) = 1 := if_pos hd2
                have HN1 := Lib.hid hn1
                clear hn1
                go_wp2_with fail
                go_ret2
                rw [HST.out, HN1.out]
                exact ⟨rfl, HOWN8.out, HG8.out⟩
            · have hst : st = (f, 0, e2) := by rw [← HSD.out, if_pos he]
              subst hst
              have b1 : (e2 != 0) = true := bne_iff_ne.2 he
              have b2 : (e2 == 0) = false := beq_eq_false_iff_ne.2 he
              clear HSD
              go_wp2_with fail
              go_ret2
              exact ⟨rfl, ⟨c, Nat.le_succ c, by first | rfl | (intro _; rfl), HO7.out⟩, HG7.out⟩
        · have hob : (d.out == 0) = false := beq_eq_false_iff_ne.2 hout
          have hon : (d.out != 0) = true := bne_iff_ne.2 hout
          have hone : oneC f ⟨kd, tx, n, ep, vt, now, sp, cp⟩ = (d, 13) := by unfold oneC; dsimp only; rw [HF.out]; dsimp only; rw [if_neg hk1, if_pos hout]
          have hst : st = (f, 0, 13) := by rw [← HSD.out, hone, if_pos (by simp)]
          subst hst
          clear hone HSD
          go_wp2_with fail
          go_ret2
          exact ⟨rfl, ⟨c, Nat.le_succ c, by first | rfl | (intro _; rfl), HO5.out⟩, HG5.out⟩
end Go.Proofs.Ytdlfjbllmmkmkaa.Chair
