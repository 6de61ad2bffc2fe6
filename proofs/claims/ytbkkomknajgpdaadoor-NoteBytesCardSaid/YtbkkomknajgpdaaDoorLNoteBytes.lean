/- Which notes may be, any one's bytes, and that of any bytes: for every note and all bytes the statement's call returns true. -/
import Derived.Test.YtbkkomknajgpdaaDoorNoteEq
namespace Go.Proofs.YtbkkomknajgpdaaDoor.LNoteBytes
open Go.RowKit CodeSpec SumSpec NoteSpec Flat CodeMem SumMem NoteNum Note NoteCode Go.Proofs.YtbkkomknajgpdaaDoorW.PrintLast
set_option linter.unusedSimpArgs false
set_option linter.unusedVariables false
set_option maxRecDepth 100000

set_option maxHeartbeats 4000000 in
theorem walk (c0 : List Value) (a1 : Option Addr) (len1 cap1 : Nat) (r1 : List (List Value)) (w : World) (w0 : Fits [.int .i64, .int .u8, .int .i64, .int .i64, .int .i64, .int .i64, .int .u8, .int .u8, .int .i64, .str] c0) (w1 : IsRows [.int .u8] w a1 len1 cap1 r1) :
    Calls Tryd.prog 3 #[.agg c0.toArray, .slice a1 len1 cap1] w fun e w' => e = .returned (.bool true) ∧ Below w.heap.size w w' := by
  obtain ⟨x, rfl, q1, q2, q3, hc⟩ := open_note w0
  obtain ⟨l, hll, hlc, hcm, hib⟩ := rows_bytes w1
  subst hll
  clear w0 w1
  obtain ⟨k, m, tx, ep, v, mk, mf, mt, me, mc⟩ := x
  dsimp only at q1 q2 q3 hc ⊢
  unfold maxLen at hc
  by_cases hb : 700 < mc.size
  · have hs1 : (700 : Int) < (mc.size : Int) := by omega
    go_enter Tryd.func3, Tryd.ntmps3
    go_wp2_with fail
    refine (alive_any _).mono ?_
    rintro r v1 ⟨rfl, hb1⟩
    obtain ⟨c_hb1, f_hb1, z_hb1⟩ := bcell hb1; have z0_hb1 := z_hb1 (w.heap.size) (by first | omega | (simp only [World.size_alloc, World.size_setCell, World.size_drew, World.heap_drewN] <;> omega)); clear z_hb1
    go_wp2_with fail
    go_ret
    refine ⟨by first | rfl | (simp [*]; done), ?_⟩
    repeat (first | (with_reducible exact Below.refl _ _) | (with_reducible assumption) | (with_reducible refine bw_alloc ?_) | (with_reducible refine bw_drew ?_) | (with_reducible refine bw_drewN ?_) | (with_reducible refine bw_set ?_ (by first | (simp; done) | (dsimp only; omega))) | (with_reducible refine bw_via (by assumption) ?_))
  have hs1 : decide ((700 : Int) < (mc.size : Int)) = false := by simp; omega
  clear hb
  by_cases hb : 700 < l.length
  · have hs2 : decide ((700 : Int) < (l.length : Int)) = true := by simp; omega
    go_enter Tryd.func3, Tryd.ntmps3
    go_wp2_with fail
    refine (alive_any _).mono ?_
    rintro r v1 ⟨rfl, hb1⟩
    obtain ⟨c_hb1, f_hb1, z_hb1⟩ := bcell hb1; have z0_hb1 := z_hb1 (w.heap.size) (by first | omega | (simp only [World.size_alloc, World.size_setCell, World.size_drew, World.heap_drewN] <;> omega)); clear z_hb1
    go_wp2_with fail
    go_ret
    refine ⟨by first | rfl | (simp [*]; done), ?_⟩
    repeat (first | (with_reducible exact Below.refl _ _) | (with_reducible assumption) | (with_reducible refine bw_alloc ?_) | (with_reducible refine bw_drew ?_) | (with_reducible refine bw_drewN ?_) | (with_reducible refine bw_set ?_ (by first | (simp; done) | (dsimp only; omega))) | (with_reducible refine bw_via (by assumption) ?_))
  have hs2 : decide ((700 : Int) < (l.length : Int)) = false := by simp; omega
  have hl7 : l.length ≤ 1000000 := by omega
  clear hb
  have HE := Lib.hid (fun W => encode_any k m tx ep v mk mf mt me mc W q1 q2 q3)
  have HR := Lib.hid (fun W => rencode_any k m tx ep v mk mf mt me mc W q1 q2 q3)
  generalize nencR k m tx ep v mk mf mt me mc = T at HE HR
  obtain ⟨o, eo⟩ := T
  have HD := Lib.hid (fun (W : World) (h : Below w.heap.size w W) => decode_note a1 l cap1 W hl7 (isB_up hib h) hlc hcm)
  have HS := Lib.hid (fun (W : World) (h : Below w.heap.size w W) => rdecode_note a1 l cap1 W hl7 (isB_up hib h) hlc hcm)
  generalize ndecR l = U at HD HS
  obtain ⟨⟨k', m', tx', ep', v', mk', mf', mt', me', mc'⟩, eu⟩ := U
  have HP := Lib.hid (fun W => right_any k m tx ep v mk mf mt me mc W)
  have HQ := Lib.hid (fun W => right_ref k m tx ep v mk mf mt me mc W)
  have HT := Lib.hid (fun W => theirs_any ⟨k, m, tx, ep, v, mk, mf, mt, me, mc⟩ W)
  have HO := Lib.hid (fun W => ours_any ⟨k', m', tx', ep', v', mk', mf', mt', me', mc'⟩ W)
  generalize rightB k m tx ep v mk mf mt me mc = B at HP HQ
  have hq := rnote_eq ⟨k', m', tx', ep', v', mk', mf', mt', me', mc'⟩ ⟨k', m', tx', ep', v', mk', mf', mt', me', mc'⟩
  rw [show nB ⟨k', m', tx', ep', v', mk', mf', mt', me', mc'⟩ ⟨k', m', tx', ep', v', mk', mf', mt', me', mc'⟩ = true from decide_eq_true rfl] at hq
  dsimp only at hq
  clear hib hlc hcm
  go_enter Tryd.func3, Tryd.ntmps3
  go_wp2_with fail
  refine (alive_any _).mono ?_
  rintro r v1 ⟨rfl, hb1⟩
  obtain ⟨c_hb1, f_hb1, z_hb1⟩ := bcell hb1; have z0_hb1 := z_hb1 (w.heap.size) (by first | omega | (simp only [World.size_alloc, World.size_setCell, World.size_drew, World.heap_drewN] <;> omega)); clear z_hb1
  have hB1 : Below w.heap.size w v1 := by repeat (first | (with_reducible exact Below.refl _ _) | (with_reducible assumption) | (with_reducible refine bw_alloc ?_) | (with_reducible refine bw_drew ?_) | (with_reducible refine bw_drewN ?_) | (with_reducible refine bw_set ?_ (by first | (simp; done) | (dsimp only; omega))) | (with_reducible refine bw_via (by assumption) ?_))
  have s0 : v1.cell? ⟨w.heap.size, 0, none⟩ = some (.int .i64 k) := (by simp [go_sem, c_hb1]); have s1 : v1.cell? ⟨w.heap.size, 1, none⟩ = some (.int .u8 m) := (by simp [go_sem, c_hb1]); have s2 : v1.cell? ⟨w.heap.size, 2, none⟩ = some (.int .i64 tx) := (by simp [go_sem, c_hb1]); have s3 : v1.cell? ⟨w.heap.size, 3, none⟩ = some (.int .i64 ep) := (by simp [go_sem, c_hb1]); have s4 : v1.cell? ⟨w.heap.size, 4, none⟩ = some (.int .i64 v) := (by simp [go_sem, c_hb1]); have s5 : v1.cell? ⟨w.heap.size, 5, none⟩ = some (.int .i64 mk) := (by simp [go_sem, c_hb1]); have s6 : v1.cell? ⟨w.heap.size, 6, none⟩ = some (.int .u8 mf) := (by simp [go_sem, c_hb1]); have s7 : v1.cell? ⟨w.heap.size, 7, none⟩ = some (.int .u8 mt) := (by simp [go_sem, c_hb1]); have s8 : v1.cell? ⟨w.heap.size, 8, none⟩ = some (.int .i64 me) := (by simp [go_sem, c_hb1]); have s9 : v1.cell? ⟨w.heap.size, 9, none⟩ = some (.string mc) := (by simp [go_sem, c_hb1])
  clear c_hb1 f_hb1 hb1
  go_wp2_with fail
  refine (HT.out _).mono ?_
  rintro r v2 ⟨rfl, hb2⟩
  go_wp2_with fail
  refine (HE.out _).mono ?_
  rintro r v3 ⟨ad, cp, rfl, g1, g2, g3, hb3⟩
  dsimp only at g1 g3
  have hB13 := hb2.trans (hb3.mono hb2.size)
  have s0 := stay hB13 z0_hb1 s0
  have s1 := stay hB13 z0_hb1 s1
  have s2 := stay hB13 z0_hb1 s2
  have s3 := stay hB13 z0_hb1 s3
  have s4 := stay hB13 z0_hb1 s4
  have s5 := stay hB13 z0_hb1 s5
  have s6 := stay hB13 z0_hb1 s6
  have s7 := stay hB13 z0_hb1 s7
  have s8 := stay hB13 z0_hb1 s8
  have s9 := stay hB13 z0_hb1 s9
  go_wp2_with fail
  refine (HR.out _).mono ?_
  rintro r v4 ⟨ae, cq, rfl, k1, k2, k3, hb4⟩
  dsimp only at k1 k3
  have z4 : w.heap.size < v4.heap.size := by have := hB13.size; have := hb4.size; omega
  have z3 : w.heap.size < v3.heap.size := by have := hB13.size; omega
  have s0 := stay hb4 z3 s0
  have s1 := stay hb4 z3 s1
  have s2 := stay hb4 z3 s2
  have s3 := stay hb4 z3 s3
  have s4 := stay hb4 z3 s4
  have s5 := stay hb4 z3 s5
  have s6 := stay hb4 z3 s6
  have s7 := stay hb4 z3 s7
  have s8 := stay hb4 z3 s8
  have s9 := stay hb4 z3 s9
  have hB4 : Below w.heap.size w v4 := (hB1.trans (hB13.mono hB1.size)).trans (hb4.mono (by omega))
  have g3 := isB_up g3 hb4
  clear hb2 hb3 hB13 hb4 z3 z0_hb1 hB1
  go_wp2_with fail
  refine (HD.out _ hB4).mono ?_
  rintro r v5 ⟨rfl, hb5⟩
  dsimp only
  go_wp2_with fail
  generalize hw6 : World.alloc v5 _ = v6
  obtain ⟨hb6, hz6, hc6⟩ := alloc_facts hw6
  have hB6 : Below w.heap.size w v6 := hB4.trans ((hb5.trans (hb6.mono hb5.size)).mono hB4.size)
  refine (HS.out _ hB6).mono ?_
  rintro r v7 ⟨rfl, hb7⟩
  dsimp only
  go_wp2_with fail
  generalize hw8 : World.alloc v7 _ = v8
  obtain ⟨hb8, hz8, hc8⟩ := alloc_facts hw8
  have hb68 := hb7.trans (hb8.mono hb7.size)
  have hb48 := hb5.trans ((hb6.trans (hb68.mono hb6.size)).mono hb5.size)
  have s0 := stay hb48 z4 s0
  have s1 := stay hb48 z4 s1
  have s2 := stay hb48 z4 s2
  have s3 := stay hb48 z4 s3
  have s4 := stay hb48 z4 s4
  have s5 := stay hb48 z4 s5
  have s6 := stay hb48 z4 s6
  have s7 := stay hb48 z4 s7
  have s8 := stay hb48 z4 s8
  have s9 := stay hb48 z4 s9
  have t0 : v8.cell? ⟨v5.heap.size, 0, none⟩ = some (.int .i64 k') := stay hb68 hz6 (hc6 0)
  have t1 : v8.cell? ⟨v5.heap.size, 1, none⟩ = some (.int .u8 m') := stay hb68 hz6 (hc6 1)
  have t2 : v8.cell? ⟨v5.heap.size, 2, none⟩ = some (.int .i64 tx') := stay hb68 hz6 (hc6 2)
  have t3 : v8.cell? ⟨v5.heap.size, 3, none⟩ = some (.int .i64 ep') := stay hb68 hz6 (hc6 3)
  have t4 : v8.cell? ⟨v5.heap.size, 4, none⟩ = some (.int .i64 v') := stay hb68 hz6 (hc6 4)
  have t5 : v8.cell? ⟨v5.heap.size, 5, none⟩ = some (.int .i64 mk') := stay hb68 hz6 (hc6 5)
  have t6 : v8.cell? ⟨v5.heap.size, 6, none⟩ = some (.int .u8 mf') := stay hb68 hz6 (hc6 6)
  have t7 : v8.cell? ⟨v5.heap.size, 7, none⟩ = some (.int .u8 mt') := stay hb68 hz6 (hc6 7)
  have t8 : v8.cell? ⟨v5.heap.size, 8, none⟩ = some (.int .i64 me') := stay hb68 hz6 (hc6 8)
  have t9 : v8.cell? ⟨v5.heap.size, 9, none⟩ = some (.string mc') := stay hb68 hz6 (hc6 9)
  have u0 : v8.cell? ⟨v7.heap.size, 0, none⟩ = some (.int .i64 k') := hc8 0
  have u1 : v8.cell? ⟨v7.heap.size, 1, none⟩ = some (.int .u8 m') := hc8 1
  have u2 : v8.cell? ⟨v7.heap.size, 2, none⟩ = some (.int .i64 tx') := hc8 2
  have u3 : v8.cell? ⟨v7.heap.size, 3, none⟩ = some (.int .i64 ep') := hc8 3
  have u4 : v8.cell? ⟨v7.heap.size, 4, none⟩ = some (.int .i64 v') := hc8 4
  have u5 : v8.cell? ⟨v7.heap.size, 5, none⟩ = some (.int .i64 mk') := hc8 5
  have u6 : v8.cell? ⟨v7.heap.size, 6, none⟩ = some (.int .u8 mf') := hc8 6
  have u7 : v8.cell? ⟨v7.heap.size, 7, none⟩ = some (.int .u8 mt') := hc8 7
  have u8 : v8.cell? ⟨v7.heap.size, 8, none⟩ = some (.int .i64 me') := hc8 8
  have u9 : v8.cell? ⟨v7.heap.size, 9, none⟩ = some (.string mc') := hc8 9
  have hB8 : Below w.heap.size w v8 := hB6.trans (hb68.mono hB6.size)
  have g3 := isB_up g3 hb48
  have k3 := isB_up k3 hb48
  have z48 : w.heap.size < v8.heap.size := by have := hb48.size; omega
  have z58 : v5.heap.size < v8.heap.size := by have := hb68.size; omega
  have HC1 : Hid (∀ w', Below v8.heap.size v8 w' → (convert 26 9 (.slice ad o.length cp)).run Tryd.prog w' = .ok (.string ⟨o.toArray⟩) w') := Lib.hid (fun w' hb => conv_bytes cp (isB_up g3 hb) 9 Tryd.underlying9)
  have HC2 : Hid (∀ w', Below v8.heap.size v8 w' → (convert 26 9 (.slice ae o.length cq)).run Tryd.prog w' = .ok (.string ⟨o.toArray⟩) w') := Lib.hid (fun w' hb => conv_bytes cq (isB_up k3 hb) 9 Tryd.underlying9)
  clear hw6 hw8 hc6 hc8 hb5 hb6 hb7 hb8 hb68 hb48 hB6 hz6 HE HR HD HS g1 g2 g3 k1 k2 k3 hB4 z4
  generalize v5.heap.size = ga at *
  generalize v7.heap.size = gb at *
  cases B
  all_goals
    refine start_ (n := 30) (S := fun w' => Below v8.heap.size v8 w' ∧ (∀ b oo, b < v8.heap.size → w'.cell? ⟨b, oo, none⟩ = v8.cell? ⟨b, oo, none⟩) ∧ (convert 26 9 (.slice ad o.length cp)).run Tryd.prog w' = .ok (.string ⟨o.toArray⟩) w' ∧ (convert 26 9 (.slice ae o.length cq)).run Tryd.prog w' = .ok (.string ⟨o.toArray⟩) w') (ds := []) #[false, false, false, false, false, false, false, false, false, false, false, false, false, false, false, false, false, false, false, false, false, false, false, false, false, false, false, false, false, false] (by kernel_rfl) rfl rfl ⟨(still_drew v8).1, (still_drew v8).2, HC1.out _ (still_drew v8).1, HC2.out _ (still_drew v8).1⟩ (fun hHeld => ?_)
    refine take_ (i := 0) (N := some 46) (v := ?_) (a' := ?_) #[true, false, false, false, false, false, false, false, false, false, false, false, false, false, false, false, false, false, false, false, false, false, false, false, false, false, false, false, false, false] rfl rfl (by kernel_rfl) (fun _ _ _ h => h) (Or.inl ⟨by rfl, ?_⟩) hHeld ?_ ?_
    rotate_left
    · rintro w' ⟨s0, s1, s2, s3⟩
      go_simp
      with_reducible rfl
    rotate_left
    · simp only [Act.put, List.setIfInBounds_toArray, List.set_cons_zero, List.set_cons_succ, i64_w, i32_w]
      rfl
    refine take_ (i := 3) (N := some 49) (v := ?_) (a' := ?_) #[true, false, false, true, false, false, false, false, false, false, false, false, false, false, false, false, false, false, false, false, false, false, false, false, false, false, false, false, false, false] rfl rfl (by kernel_rfl) (fun _ _ _ h => h) (Or.inl ⟨by rfl, ?_⟩) hHeld ?_ ?_
    rotate_left
    · rintro w' ⟨s0, s1, s2, s3⟩
      go_simp
      with_reducible rfl
    rotate_left
    · simp only [Act.put, List.setIfInBounds_toArray, List.set_cons_zero, List.set_cons_succ, i64_w, i32_w]
      rfl
    refine one_ (i := 1) (N := some 47) #[true, true, false, true, false, false, false, false, false, false, false, false, false, false, false, false, false, false, false, false, false, false, false, false, false, false, false, false, false, false] rfl rfl (by kernel_rfl) (by decide) (fun K hK => ?_)
    refine goes_ Tryd.func10 (by kernel_rfl) rfl #[.agg #[.int .i64 k, .int .u8 m, .int .i64 tx, .int .i64 ep, .int .i64 v, .int .i64 mk, .int .u8 mf, .int .u8 mt, .int .i64 me, .string mc]] (by rfl) rfl rfl (by simp only [List.map_toArray, List.map_cons, List.map_nil]; rfl) ?_
    refine (HT.out _).mono ?_
    rintro e w3 ⟨rfl, hb⟩
    refine ⟨_, rfl, ?_⟩
    refine hK.out _ _ ⟨(still_keep ⟨hHeld.1, hHeld.2.1⟩ hb).1, (still_keep ⟨hHeld.1, hHeld.2.1⟩ hb).2, HC1.out _ (still_keep ⟨hHeld.1, hHeld.2.1⟩ hb).1, HC2.out _ (still_keep ⟨hHeld.1, hHeld.2.1⟩ hb).1⟩ (fun hHeld => ?_)
    clear hK K
    refine norm_ (a' := ?_) ?_ ?_
    rotate_left
    · show Act.put _ (some 47) _ = _
      simp only [Act.put, List.setIfInBounds_toArray, List.set_cons_zero, List.set_cons_succ, i64_w, i32_w]
      rfl
    refine one_ (i := 2) (N := some 48) #[true, true, true, true, false, false, false, false, false, false, false, false, false, false, false, false, false, false, false, false, false, false, false, false, false, false, false, false, false, false] rfl rfl (by kernel_rfl) (by decide) (fun K hK => ?_)
    refine goes_ Tryd.func14 (by kernel_rfl) rfl #[.agg #[.int .i64 k, .int .u8 m, .int .i64 tx, .int .i64 ep, .int .i64 v, .int .i64 mk, .int .u8 mf, .int .u8 mt, .int .i64 me, .string mc]] (by rfl) rfl rfl (by simp only [List.map_toArray, List.map_cons, List.map_nil]; rfl) ?_
    refine (HP.out _).mono ?_
    rintro e w3 ⟨rfl, hb⟩
    refine ⟨_, rfl, ?_⟩
    refine hK.out _ _ ⟨(still_keep ⟨hHeld.1, hHeld.2.1⟩ hb).1, (still_keep ⟨hHeld.1, hHeld.2.1⟩ hb).2, HC1.out _ (still_keep ⟨hHeld.1, hHeld.2.1⟩ hb).1, HC2.out _ (still_keep ⟨hHeld.1, hHeld.2.1⟩ hb).1⟩ (fun hHeld => ?_)
    clear hK K
    refine norm_ (a' := ?_) ?_ ?_
    rotate_left
    · show Act.put _ (some 48) _ = _
      simp only [Act.put, List.setIfInBounds_toArray, List.set_cons_zero, List.set_cons_succ, i64_w, i32_w]
      rfl
    refine one_ (i := 4) (N := some 50) #[true, true, true, true, true, false, false, false, false, false, false, false, false, false, false, false, false, false, false, false, false, false, false, false, false, false, false, false, false, false] rfl rfl (by kernel_rfl) (by decide) (fun K hK => ?_)
    refine goes_ Tryd.func15 (by kernel_rfl) rfl #[.agg #[.int .i64 k, .int .u8 m, .int .i64 tx, .int .i64 ep, .int .i64 v, .int .i64 mk, .int .u8 mf, .int .u8 mt, .int .i64 me, .string mc]] (by rfl) rfl rfl (by simp only [List.map_toArray, List.map_cons, List.map_nil]; rfl) ?_
    refine (HQ.out _).mono ?_
    rintro e w3 ⟨rfl, hb⟩
    refine ⟨_, rfl, ?_⟩
    refine hK.out _ _ ⟨(still_keep ⟨hHeld.1, hHeld.2.1⟩ hb).1, (still_keep ⟨hHeld.1, hHeld.2.1⟩ hb).2, HC1.out _ (still_keep ⟨hHeld.1, hHeld.2.1⟩ hb).1, HC2.out _ (still_keep ⟨hHeld.1, hHeld.2.1⟩ hb).1⟩ (fun hHeld => ?_)
    clear hK K
    refine norm_ (a' := ?_) ?_ ?_
    rotate_left
    · show Act.put _ (some 50) _ = _
      simp only [Act.put, List.setIfInBounds_toArray, List.set_cons_zero, List.set_cons_succ, i64_w, i32_w]
      rfl
    refine pure_ (i := 5) (N := some 51) (v := ?_) (a' := ?_) #[true, true, true, true, true, true, false, false, false, false, false, false, false, false, false, false, false, false, false, false, false, false, false, false, false, false, false, false, false, false] rfl rfl (by kernel_rfl) (fun _ _ _ h => h) (Or.inl ⟨by rfl, ?_⟩) ?_ ?_
    rotate_left
    · intro w'
      go_simp
      with_reducible rfl
    rotate_left
    · simp only [Act.put, List.setIfInBounds_toArray, List.set_cons_zero, List.set_cons_succ, i64_w, i32_w]
      rfl
    refine pure_ (i := 6) (N := some 52) (v := ?_) (a' := ?_) #[true, true, true, true, true, true, true, false, false, false, false, false, false, false, false, false, false, false, false, false, false, false, false, false, false, false, false, false, false, false] rfl rfl (by kernel_rfl) (fun _ _ _ h => h) (Or.inl ⟨by rfl, ?_⟩) ?_ ?_
    rotate_left
    · intro w'
      go_simp
      with_reducible rfl
    rotate_left
    · simp only [Act.put, List.setIfInBounds_toArray, List.set_cons_zero, List.set_cons_succ, i64_w, i32_w]
      rfl
    refine pure_ (i := 7) (N := some 53) (v := ?_) (a' := ?_) #[true, true, true, true, true, true, true, true, false, false, false, false, false, false, false, false, false, false, false, false, false, false, false, false, false, false, false, false, false, false] rfl rfl (by kernel_rfl) (fun _ _ _ h => h) (Or.inl ⟨by rfl, ?_⟩) ?_ ?_
    rotate_left
    · intro w'
      go_simp
      with_reducible rfl
    rotate_left
    · simp only [Act.put, List.setIfInBounds_toArray, List.set_cons_zero, List.set_cons_succ, i64_w, i32_w]
      rfl
    refine pure_ (i := 9) (N := some 55) (v := ?_) (a' := ?_) #[true, true, true, true, true, true, true, true, false, true, false, false, false, false, false, false, false, false, false, false, false, false, false, false, false, false, false, false, false, false] rfl rfl (by kernel_rfl) (fun _ _ _ h => h) (Or.inl ⟨by rfl, ?_⟩) ?_ ?_
    rotate_left
    · intro w'
      go_simp
      with_reducible rfl
    rotate_left
    · simp only [Act.put, List.setIfInBounds_toArray, List.set_cons_zero, List.set_cons_succ, i64_w, i32_w]
      rfl
    refine take_ (i := 8) (N := some 54) (v := ?_) (a' := ?_) #[true, true, true, true, true, true, true, true, true, true, false, false, false, false, false, false, false, false, false, false, false, false, false, false, false, false, false, false, false, false] rfl rfl (by kernel_rfl) (fun _ _ _ h => h) (Or.inl ⟨by rfl, ?_⟩) hHeld ?_ ?_
    rotate_left
    · rintro w' ⟨s0, s1, s2, s3⟩
      go_simp
      with_reducible rfl
    rotate_left
    · simp only [Act.put, List.setIfInBounds_toArray, List.set_cons_zero, List.set_cons_succ, i64_w, i32_w]
      rfl
    refine take_ (i := 10) (N := some 56) (v := ?_) (a' := ?_) #[true, true, true, true, true, true, true, true, true, true, true, false, false, false, false, false, false, false, false, false, false, false, false, false, false, false, false, false, false, false] rfl rfl (by kernel_rfl) (fun _ _ _ h => h) (Or.inl ⟨by rfl, ?_⟩) hHeld ?_ ?_
    rotate_left
    · rintro w' ⟨s0, s1, s2, s3⟩
      go_simp
      with_reducible rfl
    rotate_left
    · simp only [Act.put, List.setIfInBounds_toArray, List.set_cons_zero, List.set_cons_succ, i64_w, i32_w]
      rfl
    refine pure_ (i := 11) (N := some 57) (v := ?_) (a' := ?_) #[true, true, true, true, true, true, true, true, true, true, true, true, false, false, false, false, false, false, false, false, false, false, false, false, false, false, false, false, false, false] rfl rfl (by kernel_rfl) (fun _ _ _ h => h) (Or.inl ⟨by rfl, ?_⟩) ?_ ?_
    rotate_left
    · intro w'
      go_simp
      with_reducible rfl
    rotate_left
    · simp only [Act.put, List.setIfInBounds_toArray, List.set_cons_zero, List.set_cons_succ, i64_w, i32_w]
      rfl
    refine pure_ (i := 12) (N := some 58) (v := ?_) (a' := ?_) #[true, true, true, true, true, true, true, true, true, true, true, true, true, false, false, false, false, false, false, false, false, false, false, false, false, false, false, false, false, false] rfl rfl (by kernel_rfl) (fun _ _ _ h => h) (Or.inl ⟨by rfl, ?_⟩) ?_ ?_
    rotate_left
    · intro w'
      go_simp
      with_reducible rfl
    rotate_left
    · simp only [Act.put, List.setIfInBounds_toArray, List.set_cons_zero, List.set_cons_succ, i64_w, i32_w]
      rfl
    refine pure_ (i := 13) (N := some 59) (v := ?_) (a' := ?_) #[true, true, true, true, true, true, true, true, true, true, true, true, true, true, false, false, false, false, false, false, false, false, false, false, false, false, false, false, false, false] rfl rfl (by kernel_rfl) (fun _ _ _ h => h) (Or.inl ⟨by rfl, ?_⟩) ?_ ?_
    rotate_left
    · intro w'
      go_simp
      with_reducible rfl
    rotate_left
    · simp only [Act.put, List.setIfInBounds_toArray, List.set_cons_zero, List.set_cons_succ, i64_w, i32_w]
      rfl
    refine pure_ (i := 14) (N := some 60) (v := ?_) (a' := ?_) #[true, true, true, true, true, true, true, true, true, true, true, true, true, true, true, false, false, false, false, false, false, false, false, false, false, false, false, false, false, false] rfl rfl (by kernel_rfl) (fun _ _ _ h => h) (Or.inl ⟨by rfl, ?_⟩) ?_ ?_
    rotate_left
    · intro w'
      go_simp
      with_reducible rfl
    rotate_left
    · simp only [Act.put, List.setIfInBounds_toArray, List.set_cons_zero, List.set_cons_succ, i64_w, i32_w]
      rfl
    refine pure_ (i := 15) (N := some 61) (v := ?_) (a' := ?_) #[true, true, true, true, true, true, true, true, true, true, true, true, true, true, true, true, false, false, false, false, false, false, false, false, false, false, false, false, false, false] rfl rfl (by kernel_rfl) (fun _ _ _ h => h) (Or.inl ⟨by rfl, ?_⟩) ?_ ?_
    rotate_left
    · intro w'
      go_simp
      with_reducible rfl
    rotate_left
    · simp only [Act.put, List.setIfInBounds_toArray, List.set_cons_zero, List.set_cons_succ, i64_w, i32_w]
      rfl
    refine pure_ (i := 16) (N := some 62) (v := ?_) (a' := ?_) #[true, true, true, true, true, true, true, true, true, true, true, true, true, true, true, true, true, false, false, false, false, false, false, false, false, false, false, false, false, false] rfl rfl (by kernel_rfl) (fun _ _ _ h => h) (Or.inl ⟨by rfl, ?_⟩) ?_ ?_
    rotate_left
    · intro w'
      go_simp
      with_reducible rfl
    rotate_left
    · simp only [Act.put, List.setIfInBounds_toArray, List.set_cons_zero, List.set_cons_succ, i64_w, i32_w]
      rfl
    refine pure_ (i := 17) (N := some 63) (v := ?_) (a' := ?_) #[true, true, true, true, true, true, true, true, true, true, true, true, true, true, true, true, true, true, false, false, false, false, false, false, false, false, false, false, false, false] rfl rfl (by kernel_rfl) (fun _ _ _ h => h) (Or.inl ⟨by rfl, ?_⟩) ?_ ?_
    rotate_left
    · intro w'
      go_simp
      with_reducible rfl
    rotate_left
    · simp only [Act.put, List.setIfInBounds_toArray, List.set_cons_zero, List.set_cons_succ, i64_w, i32_w]
      rfl
    refine pure_ (i := 18) (N := some 64) (v := ?_) (a' := ?_) #[true, true, true, true, true, true, true, true, true, true, true, true, true, true, true, true, true, true, true, false, false, false, false, false, false, false, false, false, false, false] rfl rfl (by kernel_rfl) (fun _ _ _ h => h) (Or.inl ⟨by rfl, ?_⟩) ?_ ?_
    rotate_left
    · intro w'
      go_simp
      with_reducible rfl
    rotate_left
    · simp only [Act.put, List.setIfInBounds_toArray, List.set_cons_zero, List.set_cons_succ, i64_w, i32_w]
      rfl
    refine take_ (i := 19) (N := some 65) (v := ?_) (a' := ?_) #[true, true, true, true, true, true, true, true, true, true, true, true, true, true, true, true, true, true, true, true, false, false, false, false, false, false, false, false, false, false] rfl rfl (by kernel_rfl) (fun _ _ _ h => h) (Or.inl ⟨by rfl, ?_⟩) hHeld ?_ ?_
    rotate_left
    · rintro w' ⟨s0, s1, s2, s3⟩
      go_simp
      with_reducible rfl
    rotate_left
    · simp only [Act.put, List.setIfInBounds_toArray, List.set_cons_zero, List.set_cons_succ, i64_w, i32_w]
      rfl
    refine take_ (i := 21) (N := some 67) (v := ?_) (a' := ?_) #[true, true, true, true, true, true, true, true, true, true, true, true, true, true, true, true, true, true, true, true, false, true, false, false, false, false, false, false, false, false] rfl rfl (by kernel_rfl) (fun _ _ _ h => h) (Or.inl ⟨by rfl, ?_⟩) hHeld ?_ ?_
    rotate_left
    · rintro w' ⟨s0, s1, s2, s3⟩
      go_simp
      with_reducible rfl
    rotate_left
    · simp only [Act.put, List.setIfInBounds_toArray, List.set_cons_zero, List.set_cons_succ, i64_w, i32_w]
      rfl
    refine one_ (i := 20) (N := some 66) #[true, true, true, true, true, true, true, true, true, true, true, true, true, true, true, true, true, true, true, true, true, true, false, false, false, false, false, false, false, false] rfl rfl (by kernel_rfl) (by decide) (fun K hK => ?_)
    refine goes_ Tryd.func16 (by kernel_rfl) rfl #[.agg #[.int .i64 k', .int .u8 m', .int .i64 tx', .int .i64 ep', .int .i64 v', .int .i64 mk', .int .u8 mf', .int .u8 mt', .int .i64 me', .string mc']] (by rfl) rfl rfl (by simp only [List.map_toArray, List.map_cons, List.map_nil]; rfl) ?_
    refine (HO.out _).mono ?_
    rintro e w3 ⟨rfl, hb⟩
    refine ⟨_, rfl, ?_⟩
    refine hK.out _ _ ⟨(still_keep ⟨hHeld.1, hHeld.2.1⟩ hb).1, (still_keep ⟨hHeld.1, hHeld.2.1⟩ hb).2, HC1.out _ (still_keep ⟨hHeld.1, hHeld.2.1⟩ hb).1, HC2.out _ (still_keep ⟨hHeld.1, hHeld.2.1⟩ hb).1⟩ (fun hHeld => ?_)
    clear hK K
    refine norm_ (a' := ?_) ?_ ?_
    rotate_left
    · show Act.put _ (some 66) _ = _
      simp only [Act.put, List.setIfInBounds_toArray, List.set_cons_zero, List.set_cons_succ, i64_w, i32_w]
      rfl
    refine pure_ (i := 22) (N := some 68) (v := ?_) (a' := ?_) #[true, true, true, true, true, true, true, true, true, true, true, true, true, true, true, true, true, true, true, true, true, true, true, false, false, false, false, false, false, false] rfl rfl (by kernel_rfl) (fun _ _ _ h => h) (Or.inl ⟨by rfl, ?_⟩) ?_ ?_
    rotate_left
    · intro w'
      go_simp
      with_reducible rfl
    rotate_left
    · simp only [Act.put, List.setIfInBounds_toArray, List.set_cons_zero, List.set_cons_succ, i64_w, i32_w]
      rfl
    refine pure_ (i := 23) (N := some 69) (v := ?_) (a' := ?_) #[true, true, true, true, true, true, true, true, true, true, true, true, true, true, true, true, true, true, true, true, true, true, true, true, false, false, false, false, false, false] rfl rfl (by kernel_rfl) (fun _ _ _ h => h) (Or.inl ⟨by rfl, ?_⟩) ?_ ?_
    rotate_left
    · intro w'
      go_simp
      with_reducible rfl
    rotate_left
    · simp only [Act.put, List.setIfInBounds_toArray, List.set_cons_zero, List.set_cons_succ, i64_w, i32_w]
      rfl
    refine pure_ (i := 24) (N := some 70) (v := ?_) (a' := ?_) #[true, true, true, true, true, true, true, true, true, true, true, true, true, true, true, true, true, true, true, true, true, true, true, true, true, false, false, false, false, false] rfl rfl (by kernel_rfl) (fun _ _ _ h => h) (Or.inl ⟨by rfl, ?_⟩) ?_ ?_
    rotate_left
    · intro w'
      go_simp
      with_reducible rfl
    rotate_left
    · simp only [Act.put, List.setIfInBounds_toArray, List.set_cons_zero, List.set_cons_succ, i64_w, i32_w]
      rfl
    refine pure_ (i := 25) (N := some 71) (v := ?_) (a' := ?_) #[true, true, true, true, true, true, true, true, true, true, true, true, true, true, true, true, true, true, true, true, true, true, true, true, true, true, false, false, false, false] rfl rfl (by kernel_rfl) (fun _ _ _ h => h) (Or.inl ⟨by rfl, ?_⟩) ?_ ?_
    rotate_left
    · intro w'
      go_simp
      with_reducible rfl
    rotate_left
    · simp only [Act.put, List.setIfInBounds_toArray, List.set_cons_zero, List.set_cons_succ, i64_w, i32_w]
      rfl
    refine pure_ (i := 26) (N := some 72) (v := ?_) (a' := ?_) #[true, true, true, true, true, true, true, true, true, true, true, true, true, true, true, true, true, true, true, true, true, true, true, true, true, true, true, false, false, false] rfl rfl (by kernel_rfl) (fun _ _ _ h => h) (Or.inl ⟨by rfl, ?_⟩) ?_ ?_
    rotate_left
    · intro w'
      go_simp
      with_reducible rfl
    rotate_left
    · simp only [Act.put, List.setIfInBounds_toArray, List.set_cons_zero, List.set_cons_succ, i64_w, i32_w]
      rfl
    refine pure_ (i := 27) (N := some 73) (v := ?_) (a' := ?_) #[true, true, true, true, true, true, true, true, true, true, true, true, true, true, true, true, true, true, true, true, true, true, true, true, true, true, true, true, false, false] rfl rfl (by kernel_rfl) (fun _ _ _ h => h) (Or.inl ⟨by rfl, ?_⟩) ?_ ?_
    rotate_left
    · intro w'
      go_simp
      with_reducible rfl
    rotate_left
    · simp only [Act.put, List.setIfInBounds_toArray, List.set_cons_zero, List.set_cons_succ, i64_w, i32_w]
      rfl
    refine pure_ (i := 28) (N := some 74) (v := ?_) (a' := ?_) #[true, true, true, true, true, true, true, true, true, true, true, true, true, true, true, true, true, true, true, true, true, true, true, true, true, true, true, true, true, false] rfl rfl (by kernel_rfl) (fun _ _ _ h => h) (Or.inl ⟨by rfl, ?_⟩) ?_ ?_
    rotate_left
    · intro w'
      go_simp
      with_reducible rfl
    rotate_left
    · simp only [Act.put, List.setIfInBounds_toArray, List.set_cons_zero, List.set_cons_succ, i64_w, i32_w]
      rfl
    refine pure_ (i := 29) (N := some 4) (v := ?_) (a' := ?_) #[true, true, true, true, true, true, true, true, true, true, true, true, true, true, true, true, true, true, true, true, true, true, true, true, true, true, true, true, true, true] rfl rfl (by kernel_rfl) (fun _ _ _ h => h) (Or.inl ⟨by rfl, ?_⟩) ?_ ?_
    rotate_left
    · intro w'
      go_simp
      with_reducible rfl
    rotate_left
    · simp only [Act.put, List.setIfInBounds_toArray, List.set_cons_zero, List.set_cons_succ, i64_w, i32_w]
      rfl
    refine done_ (by kernel_rfl) ?_

    go_wp2_with fail
    go_ret
    exact ⟨rfl, hB8.trans (hHeld.1.mono hB8.size)⟩
end Go.Proofs.YtbkkomknajgpdaaDoor.LNoteBytes
