/- Notes come back from their bytes, and bytes from their notes; unlike notes have unlike bytes: for all notes and all bytes the statement's call returns true. -/
import Derived.Test.YtbkkomknajgpdaaDoorNoteEq
import Derived.Deep.DeepCutAuto
import Derived.Deep.QuietTactic
import Derived.BigQuiet
namespace Go.Proofs.YtbkkomknajgpdaaDoor.LNoteBack
open Go.RowKit CodeSpec SumSpec NoteSpec Flat CodeMem SumMem NoteNum Note NoteCode Go.Proofs.YtbkkomknajgpdaaDoorW.PrintLast
set_option linter.unusedSimpArgs false
set_option linter.unusedVariables false
set_option maxRecDepth 100000

theorem inj {a b : N} {oa ob : List UInt8} (ha : ndecR oa = (a, 0)) (hb : ndecR ob = (b, 0)) (hna : nencR a.k a.m a.tx a.ep a.v a.hk a.hf a.ht a.he a.hc = (oa, 0)) (hnb : nencR b.k b.m b.tx b.ep b.v b.hk b.hf b.ht b.he b.hc = (ob, 0)) :
    ((oa == ob) == nB a b) = true := by
  unfold nB
  by_cases h : a = b
  · subst h
    rw [hna] at hnb
    have : oa = ob := congrArg Prod.fst hnb
    subst this
    simp
  · have : ¬ oa = ob := fun e => by subst e; rw [ha] at hb; exact h (congrArg Prod.fst hb)
    simp [h, this]

set_option maxHeartbeats 8000000 in
theorem walk (c0 : List Value) (c1 : List Value) (a2 : Option Addr) (len2 cap2 : Nat) (r2 : List (List Value)) (w : World) (w0 : Fits [.int .i64, .int .u8, .int .i64, .int .i64, .int .i64, .int .i64, .int .u8, .int .u8, .int .i64, .str] c0) (w1 : Fits [.int .i64, .int .u8, .int .i64, .int .i64, .int .i64, .int .i64, .int .u8, .int .u8, .int .i64, .str] c1) (w2 : IsRows [.int .u8] w a2 len2 cap2 r2) :
    Calls Tryd.prog 4 #[.agg c0.toArray, .agg c1.toArray, .slice a2 len2 cap2] w fun e w' => e = .returned (.bool true) ∧ Below w.heap.size w w' := by
  obtain ⟨x, rfl, q1, q2, q3, hc⟩ := open_note w0
  obtain ⟨x', rfl, p1, p2, p3, hc'⟩ := open_note w1
  obtain ⟨l, hll, hlc, hcm, hib⟩ := rows_bytes w2
  subst hll
  clear w0 w1 w2
  obtain ⟨k, m, tx, ep, v, mk, mf, mt, me, mc⟩ := x
  obtain ⟨k', m', tx', ep', v', mk', mf', mt', me', mc'⟩ := x'
  dsimp only at q1 q2 q3 hc p1 p2 p3 hc' ⊢
  unfold maxLen at hc hc'
  by_cases hb : 700 < mc.size
  · have hs1 : decide ((700 : Int) < (mc.size : Int)) = true := by simp; omega
    go_enter Tryd.func4, Tryd.ntmps4
    go_wp2_with fail
    refine (alive_any _).mono ?_
    rintro r v1 ⟨rfl, hb1⟩
    obtain ⟨c_hb1, f_hb1, z_hb1⟩ := bcell hb1; have z0_hb1 := z_hb1 (w.heap.size) (by first | omega | (simp only [World.size_alloc, World.size_setCell, World.size_drew, World.heap_drewN] <;> omega)); have z1_hb1 := z_hb1 (w.heap.size + 1) (by first | omega | (simp only [World.size_alloc, World.size_setCell, World.size_drew, World.heap_drewN] <;> omega)); clear z_hb1
    go_wp2_with fail
    go_ret
    refine ⟨by first | rfl | (simp [*]; done), ?_⟩
    repeat (first | (with_reducible exact Below.refl _ _) | (with_reducible assumption) | (with_reducible refine bw_alloc ?_) | (with_reducible refine bw_drew ?_) | (with_reducible refine bw_drewN ?_) | (with_reducible refine bw_set ?_ (by first | (simp; done) | (dsimp only; omega))) | (with_reducible refine bw_via (by assumption) ?_))
  have hs1 : decide ((700 : Int) < (mc.size : Int)) = false := by simp; omega
  clear hb
  by_cases hb : 700 < mc'.size
  · have hs2 : decide ((700 : Int) < (mc'.size : Int)) = true := by simp; omega
    go_enter Tryd.func4, Tryd.ntmps4
    go_wp2_with fail
    refine (alive_any _).mono ?_
    rintro r v1 ⟨rfl, hb1⟩
    obtain ⟨c_hb1, f_hb1, z_hb1⟩ := bcell hb1; have z0_hb1 := z_hb1 (w.heap.size) (by first | omega | (simp only [World.size_alloc, World.size_setCell, World.size_drew, World.heap_drewN] <;> omega)); have z1_hb1 := z_hb1 (w.heap.size + 1) (by first | omega | (simp only [World.size_alloc, World.size_setCell, World.size_drew, World.heap_drewN] <;> omega)); clear z_hb1
    go_wp2_with fail
    go_ret
    refine ⟨by first | rfl | (simp [*]; done), ?_⟩
    repeat (first | (with_reducible exact Below.refl _ _) | (with_reducible assumption) | (with_reducible refine bw_alloc ?_) | (with_reducible refine bw_drew ?_) | (with_reducible refine bw_drewN ?_) | (with_reducible refine bw_set ?_ (by first | (simp; done) | (dsimp only; omega))) | (with_reducible refine bw_via (by assumption) ?_))
  have hs2 : decide ((700 : Int) < (mc'.size : Int)) = false := by simp; omega
  clear hb
  by_cases hb : 700 < l.length
  · have hs3 : decide ((700 : Int) < (l.length : Int)) = true := by simp; omega
    go_enter Tryd.func4, Tryd.ntmps4
    go_wp2_with fail
    refine (alive_any _).mono ?_
    rintro r v1 ⟨rfl, hb1⟩
    obtain ⟨c_hb1, f_hb1, z_hb1⟩ := bcell hb1; have z0_hb1 := z_hb1 (w.heap.size) (by first | omega | (simp only [World.size_alloc, World.size_setCell, World.size_drew, World.heap_drewN] <;> omega)); have z1_hb1 := z_hb1 (w.heap.size + 1) (by first | omega | (simp only [World.size_alloc, World.size_setCell, World.size_drew, World.heap_drewN] <;> omega)); clear z_hb1
    go_wp2_with fail
    go_ret
    refine ⟨by first | rfl | (simp [*]; done), ?_⟩
    repeat (first | (with_reducible exact Below.refl _ _) | (with_reducible assumption) | (with_reducible refine bw_alloc ?_) | (with_reducible refine bw_drew ?_) | (with_reducible refine bw_drewN ?_) | (with_reducible refine bw_set ?_ (by first | (simp; done) | (dsimp only; omega))) | (with_reducible refine bw_via (by assumption) ?_))
  have hs3 : decide ((700 : Int) < (l.length : Int)) = false := by simp; omega
  have hl7 : l.length ≤ 1000000 := by omega
  clear hb
  have HE := Lib.hid (fun W => encode_any k m tx ep v mk mf mt me mc W q1 q2 q3)
  have HF := Lib.hid (fun W => encode_any k' m' tx' ep' v' mk' mf' mt' me' mc' W p1 p2 p3)
  have HDE := Lib.hid (fun o => @ndec_nenc k m tx ep v mk mf mt me mc o q1 q2 q3)
  have HDF := Lib.hid (fun o => @ndec_nenc k' m' tx' ep' v' mk' mf' mt' me' mc' o p1 p2 p3)
  have HLE := Lib.hid (fun o => @nenc_length k m tx ep v mk mf mt me mc o)
  obtain ⟨T, hT⟩ : ∃ T, nencR k m tx ep v mk mf mt me mc = T := ⟨_, rfl⟩
  obtain ⟨T', hT'⟩ : ∃ T, nencR k' m' tx' ep' v' mk' mf' mt' me' mc' = T := ⟨_, rfl⟩
  rw [hT] at HE HDE HLE
  rw [hT'] at HF HDF
  obtain ⟨oa, ea⟩ := T
  obtain ⟨ob, eb⟩ := T'
  have HTA := Lib.hid hT
  have HTB := Lib.hid hT'
  clear hT hT'
  have HD := Lib.hid (fun (W : World) (h : Below w.heap.size w W) => decode_note a2 l cap2 W hl7 (isB_up hib h) hlc hcm)
  have HB := Lib.hid (fun (W : World) (h : Below w.heap.size w W) => isB_up hib h)
  have HND := Lib.hid (fun x => @nenc_ndec l x)
  generalize hU : ndecR l = U at HD HND
  obtain ⟨x2, eu⟩ := U
  have HT := Lib.hid (fun W => theirs_any ⟨k, m, tx, ep, v, mk, mf, mt, me, mc⟩ W)
  have HT2 := Lib.hid (fun W => theirs_any ⟨k', m', tx', ep', v', mk', mf', mt', me', mc'⟩ W)
  clear hib hU
  go_enter Tryd.func4, Tryd.ntmps4
  go_wp2_with fail
  refine (alive_any _).mono ?_
  rintro r v1 ⟨rfl, hb1⟩
  obtain ⟨c_hb1, f_hb1, z_hb1⟩ := bcell hb1; have z0_hb1 := z_hb1 (w.heap.size) (by first | omega | (simp only [World.size_alloc, World.size_setCell, World.size_drew, World.heap_drewN] <;> omega)); have z1_hb1 := z_hb1 (w.heap.size + 1) (by first | omega | (simp only [World.size_alloc, World.size_setCell, World.size_drew, World.heap_drewN] <;> omega)); clear z_hb1
  have hB1 : Below w.heap.size w v1 := by repeat (first | (with_reducible exact Below.refl _ _) | (with_reducible assumption) | (with_reducible refine bw_alloc ?_) | (with_reducible refine bw_drew ?_) | (with_reducible refine bw_drewN ?_) | (with_reducible refine bw_set ?_ (by first | (simp; done) | (dsimp only; omega))) | (with_reducible refine bw_via (by assumption) ?_))
  have s0 : v1.cell? ⟨w.heap.size, 0, none⟩ = some (.int .i64 k) := (by simp [go_sem, c_hb1]); have s1 : v1.cell? ⟨w.heap.size, 1, none⟩ = some (.int .u8 m) := (by simp [go_sem, c_hb1]); have s2 : v1.cell? ⟨w.heap.size, 2, none⟩ = some (.int .i64 tx) := (by simp [go_sem, c_hb1]); have s3 : v1.cell? ⟨w.heap.size, 3, none⟩ = some (.int .i64 ep) := (by simp [go_sem, c_hb1]); have s4 : v1.cell? ⟨w.heap.size, 4, none⟩ = some (.int .i64 v) := (by simp [go_sem, c_hb1]); have s5 : v1.cell? ⟨w.heap.size, 5, none⟩ = some (.int .i64 mk) := (by simp [go_sem, c_hb1]); have s6 : v1.cell? ⟨w.heap.size, 6, none⟩ = some (.int .u8 mf) := (by simp [go_sem, c_hb1]); have s7 : v1.cell? ⟨w.heap.size, 7, none⟩ = some (.int .u8 mt) := (by simp [go_sem, c_hb1]); have s8 : v1.cell? ⟨w.heap.size, 8, none⟩ = some (.int .i64 me) := (by simp [go_sem, c_hb1]); have s9 : v1.cell? ⟨w.heap.size, 9, none⟩ = some (.string mc) := (by simp [go_sem, c_hb1])
  have t0 : v1.cell? ⟨w.heap.size + 1, 0, none⟩ = some (.int .i64 k') := (by simp [go_sem, c_hb1]); have t1 : v1.cell? ⟨w.heap.size + 1, 1, none⟩ = some (.int .u8 m') := (by simp [go_sem, c_hb1]); have t2 : v1.cell? ⟨w.heap.size + 1, 2, none⟩ = some (.int .i64 tx') := (by simp [go_sem, c_hb1]); have t3 : v1.cell? ⟨w.heap.size + 1, 3, none⟩ = some (.int .i64 ep') := (by simp [go_sem, c_hb1]); have t4 : v1.cell? ⟨w.heap.size + 1, 4, none⟩ = some (.int .i64 v') := (by simp [go_sem, c_hb1]); have t5 : v1.cell? ⟨w.heap.size + 1, 5, none⟩ = some (.int .i64 mk') := (by simp [go_sem, c_hb1]); have t6 : v1.cell? ⟨w.heap.size + 1, 6, none⟩ = some (.int .u8 mf') := (by simp [go_sem, c_hb1]); have t7 : v1.cell? ⟨w.heap.size + 1, 7, none⟩ = some (.int .u8 mt') := (by simp [go_sem, c_hb1]); have t8 : v1.cell? ⟨w.heap.size + 1, 8, none⟩ = some (.int .i64 me') := (by simp [go_sem, c_hb1]); have t9 : v1.cell? ⟨w.heap.size + 1, 9, none⟩ = some (.string mc') := (by simp [go_sem, c_hb1])
  clear c_hb1 f_hb1 hb1
  go_wp2_with fail
  refine (HT.out _).mono ?_
  rintro r v2 ⟨rfl, hb2⟩
  go_wp2_with fail
  refine (HE.out _).mono ?_
  rintro r v3 ⟨ad, cp, rfl, g1, g2, g3, hb3⟩
  dsimp only at g1 g3
  have hB3 := hb2.trans (hb3.mono hb2.size)
  have t0 := stay hB3 z1_hb1 t0
  have t1 := stay hB3 z1_hb1 t1
  have t2 := stay hB3 z1_hb1 t2
  have t3 := stay hB3 z1_hb1 t3
  have t4 := stay hB3 z1_hb1 t4
  have t5 := stay hB3 z1_hb1 t5
  have t6 := stay hB3 z1_hb1 t6
  have t7 := stay hB3 z1_hb1 t7
  have t8 := stay hB3 z1_hb1 t8
  have t9 := stay hB3 z1_hb1 t9
  go_wp2_with fail
  refine (HT2.out _).mono ?_
  rintro r v4 ⟨rfl, hb4⟩
  go_wp2_with fail
  refine (HF.out _).mono ?_
  rintro r v5 ⟨ae, cq, rfl, k1, k2, k3, hb5⟩
  dsimp only at k1 k3
  have hB35 := hb4.trans (hb5.mono hb4.size)
  have hB15 := hB3.trans (hB35.mono hB3.size)
  have g3 := isB_up g3 hB35
  have z15 : w.heap.size + 1 < v3.heap.size := by have := hB3.size; omega
  have s0 := stay hB15 z0_hb1 s0
  have s1 := stay hB15 z0_hb1 s1
  have s2 := stay hB15 z0_hb1 s2
  have s3 := stay hB15 z0_hb1 s3
  have s4 := stay hB15 z0_hb1 s4
  have s5 := stay hB15 z0_hb1 s5
  have s6 := stay hB15 z0_hb1 s6
  have s7 := stay hB15 z0_hb1 s7
  have s8 := stay hB15 z0_hb1 s8
  have s9 := stay hB15 z0_hb1 s9
  have t0 := stay hB35 z15 t0
  have t1 := stay hB35 z15 t1
  have t2 := stay hB35 z15 t2
  have t3 := stay hB35 z15 t3
  have t4 := stay hB35 z15 t4
  have t5 := stay hB35 z15 t5
  have t6 := stay hB35 z15 t6
  have t7 := stay hB35 z15 t7
  have t8 := stay hB35 z15 t8
  have t9 := stay hB35 z15 t9
  have z05 : w.heap.size < v5.heap.size := by have := hB15.size; omega
  have z15 : w.heap.size + 1 < v5.heap.size := by have := hB15.size; omega
  have hB5 : Below w.heap.size w v5 := hB1.trans (hB15.mono hB1.size)
  clear hb2 hb3 hB3 hb4 hb5 hB35 hB15 z0_hb1 z1_hb1 hB1 HE HF HT HT2
  go_upto_if 49 with (fail)
  go_cut [49] (fun _ wx => Below v5.heap.size v5 wx)
  case first =>
    by_cases h0 : ea = 0
    · subst h0
      have HDX := Lib.hid (HDE.out _ rfl)
      have hol : oa.length ≤ 1000000 := by have := HLE.out _ rfl; omega
      have HO := Lib.hid (fun W => ours_any ⟨k, m, tx, ep, v, mk, mf, mt, me, mc⟩ W)
      have hq := rnote_neq ⟨k, m, tx, ep, v, mk, mf, mt, me, mc⟩ ⟨k, m, tx, ep, v, mk, mf, mt, me, mc⟩
      rw [show nB ⟨k, m, tx, ep, v, mk, mf, mt, me, mc⟩ ⟨k, m, tx, ep, v, mk, mf, mt, me, mc⟩ = true from decide_eq_true rfl] at hq
      dsimp only at hq
      have HX := decode_note ad oa cp v5 hol g3 g1 g2
      rw [HDX.out] at HX
      go_wp2_with fail
      refine HX.mono ?_
      rintro r v6 ⟨rfl, hb6⟩
      dsimp only
      clear HX
      go_wp2_with fail
      generalize hw7 : World.alloc v6 _ = v7
      obtain ⟨hb7, hz7, hc7⟩ := alloc_facts hw7
      have hB7 : Below v5.heap.size v5 v7 := hb6.trans (hb7.mono hb6.size)
      have z07 : w.heap.size < v7.heap.size := by have := hB7.size; omega
      have s0 := stay hB7 z05 s0
      have s1 := stay hB7 z05 s1
      have s2 := stay hB7 z05 s2
      have s3 := stay hB7 z05 s3
      have s4 := stay hB7 z05 s4
      have s5 := stay hB7 z05 s5
      have s6 := stay hB7 z05 s6
      have s7 := stay hB7 z05 s7
      have s8 := stay hB7 z05 s8
      have s9 := stay hB7 z05 s9
      have u0 : v7.cell? ⟨v6.heap.size, 0, none⟩ = some (.int .i64 k) := hc7 0
      have u1 : v7.cell? ⟨v6.heap.size, 1, none⟩ = some (.int .u8 m) := hc7 1
      have u2 : v7.cell? ⟨v6.heap.size, 2, none⟩ = some (.int .i64 tx) := hc7 2
      have u3 : v7.cell? ⟨v6.heap.size, 3, none⟩ = some (.int .i64 ep) := hc7 3
      have u4 : v7.cell? ⟨v6.heap.size, 4, none⟩ = some (.int .i64 v) := hc7 4
      have u5 : v7.cell? ⟨v6.heap.size, 5, none⟩ = some (.int .i64 mk) := hc7 5
      have u6 : v7.cell? ⟨v6.heap.size, 6, none⟩ = some (.int .u8 mf) := hc7 6
      have u7 : v7.cell? ⟨v6.heap.size, 7, none⟩ = some (.int .u8 mt) := hc7 7
      have u8 : v7.cell? ⟨v6.heap.size, 8, none⟩ = some (.int .i64 me) := hc7 8
      have u9 : v7.cell? ⟨v6.heap.size, 9, none⟩ = some (.string mc) := hc7 9
      clear hw7 hc7 hb6 hb7
      refine start_ (n := 8) (S := fun w' => Below v7.heap.size v7 w' ∧ (∀ b oo, b < v7.heap.size → w'.cell? ⟨b, oo, none⟩ = v7.cell? ⟨b, oo, none⟩)) (ds := []) #[false, false, false, false, false, false, false, false] (by kernel_rfl) rfl rfl ⟨(still_drew v7).1, (still_drew v7).2⟩ (fun hHeld => ?_)
      refine pure_ (i := 0) (N := some 55) (v := ?_) (a' := ?_) #[true, false, false, false, false, false, false, false] rfl rfl (by kernel_rfl) (fun _ _ _ h => h) (Or.inl ⟨by rfl, ?_⟩) ?_ ?_
      rotate_left
      · intro w'
        go_simp
        with_reducible rfl
      rotate_left
      · simp only [Act.put, List.setIfInBounds_toArray, List.set_cons_zero, List.set_cons_succ, i64_w, i32_w]
        rfl
      refine pure_ (i := 1) (N := some 56) (v := ?_) (a' := ?_) #[true, true, false, false, false, false, false, false] rfl rfl (by kernel_rfl) (fun _ _ _ h => h) (Or.inl ⟨by rfl, ?_⟩) ?_ ?_
      rotate_left
      · intro w'
        go_simp
        with_reducible rfl
      rotate_left
      · simp only [Act.put, List.setIfInBounds_toArray, List.set_cons_zero, List.set_cons_succ, i64_w, i32_w]
        rfl
      refine pure_ (i := 2) (N := some 57) (v := ?_) (a' := ?_) #[true, true, true, false, false, false, false, false] rfl rfl (by kernel_rfl) (fun _ _ _ h => h) (Or.inl ⟨by rfl, ?_⟩) ?_ ?_
      rotate_left
      · intro w'
        go_simp
        with_reducible rfl
      rotate_left
      · simp only [Act.put, List.setIfInBounds_toArray, List.set_cons_zero, List.set_cons_succ, i64_w, i32_w]
        rfl
      refine take_ (i := 3) (N := some 58) (v := ?_) (a' := ?_) #[true, true, true, true, false, false, false, false] rfl rfl (by kernel_rfl) (fun _ _ _ h => h) (Or.inl ⟨by rfl, ?_⟩) hHeld ?_ ?_
      rotate_left
      · rintro w' ⟨s0, s1⟩
        go_simp
        with_reducible rfl
      rotate_left
      · simp only [Act.put, List.setIfInBounds_toArray, List.set_cons_zero, List.set_cons_succ, i64_w, i32_w]
        rfl
      refine take_ (i := 5) (N := some 60) (v := ?_) (a' := ?_) #[true, true, true, true, false, true, false, false] rfl rfl (by kernel_rfl) (fun _ _ _ h => h) (Or.inl ⟨by rfl, ?_⟩) hHeld ?_ ?_
      rotate_left
      · rintro w' ⟨s0, s1⟩
        go_simp
        with_reducible rfl
      rotate_left
      · simp only [Act.put, List.setIfInBounds_toArray, List.set_cons_zero, List.set_cons_succ, i64_w, i32_w]
        rfl
      refine one_ (i := 4) (N := some 59) #[true, true, true, true, true, true, false, false] rfl rfl (by kernel_rfl) (by decide) (fun K hK => ?_)
      refine goes_ Tryd.func16 (by kernel_rfl) rfl #[.agg #[.int .i64 k, .int .u8 m, .int .i64 tx, .int .i64 ep, .int .i64 v, .int .i64 mk, .int .u8 mf, .int .u8 mt, .int .i64 me, .string mc]] (by rfl) rfl rfl (by simp only [List.map_toArray, List.map_cons, List.map_nil]; rfl) ?_
      refine (HO.out _).mono ?_
      rintro e w3 ⟨rfl, hb⟩
      refine ⟨_, rfl, ?_⟩
      refine hK.out _ _ ⟨(still_keep ⟨hHeld.1, hHeld.2⟩ hb).1, (still_keep ⟨hHeld.1, hHeld.2⟩ hb).2⟩ (fun hHeld => ?_)
      clear hK K
      refine norm_ (a' := ?_) ?_ ?_
      rotate_left
      · show Act.put _ (some 59) _ = _
        simp only [Act.put, List.setIfInBounds_toArray, List.set_cons_zero, List.set_cons_succ, i64_w, i32_w]
        rfl
      refine pure_ (i := 6) (N := some 61) (v := ?_) (a' := ?_) #[true, true, true, true, true, true, true, false] rfl rfl (by kernel_rfl) (fun _ _ _ h => h) (Or.inl ⟨by rfl, ?_⟩) ?_ ?_
      rotate_left
      · intro w'
        go_simp
        with_reducible rfl
      rotate_left
      · simp only [Act.put, List.setIfInBounds_toArray, List.set_cons_zero, List.set_cons_succ, i64_w, i32_w]
        rfl
      refine pure_ (i := 7) (N := some 62) (v := ?_) (a' := ?_) #[true, true, true, true, true, true, true, true] rfl rfl (by kernel_rfl) (fun _ _ _ h => h) (Or.inl ⟨by rfl, ?_⟩) ?_ ?_
      rotate_left
      · intro w'
        go_simp
        with_reducible rfl
      rotate_left
      · simp only [Act.put, List.setIfInBounds_toArray, List.set_cons_zero, List.set_cons_succ, i64_w, i32_w]
        rfl
      refine done_ (by kernel_rfl) ?_

      go_wp2_with fail
      go_meet
      exact hB7.trans (hHeld.1.mono hB7.size)
    · have hne : (ea == 0) = false := by simp [h0]
      go_wp2_with fail
      go_meet
      exact Below.refl _ _
  case rest =>
    obtain ⟨v6, h_v6⟩ : ∃ v : World, v = wc := ⟨_, rfl⟩; subst h_v6
    have g3 := isB_up g3 hcut
    have k3 := isB_up k3 hcut
    have s0 := stay hcut z05 s0
    have s1 := stay hcut z05 s1
    have s2 := stay hcut z05 s2
    have s3 := stay hcut z05 s3
    have s4 := stay hcut z05 s4
    have s5 := stay hcut z05 s5
    have s6 := stay hcut z05 s6
    have s7 := stay hcut z05 s7
    have s8 := stay hcut z05 s8
    have s9 := stay hcut z05 s9
    have t0 := stay hcut z15 t0
    have t1 := stay hcut z15 t1
    have t2 := stay hcut z15 t2
    have t3 := stay hcut z15 t3
    have t4 := stay hcut z15 t4
    have t5 := stay hcut z15 t5
    have t6 := stay hcut z15 t6
    have t7 := stay hcut z15 t7
    have t8 := stay hcut z15 t8
    have t9 := stay hcut z15 t9
    have hB6 : Below w.heap.size w v6 := hB5.trans (hcut.mono hB5.size)
    have z06 : w.heap.size < v6.heap.size := by have := hcut.size; omega
    have z16 : w.heap.size + 1 < v6.heap.size := by have := hcut.size; omega
    clear hcut z05 z15 hB5
    go_wp2_with fail
    refine (HD.out _ hB6).mono ?_
    rintro r v7 ⟨rfl, hb7⟩
    dsimp only
    go_upto_if 69 with (fail)
    generalize hw8 : World.alloc v7 _ = v8
    obtain ⟨hb8, hz8, hc8⟩ := alloc_facts hw8
    have hB8 : Below v6.heap.size v6 v8 := hb7.trans (hb8.mono hb7.size)
    have y0 := hc8 0
    have y1 := hc8 1
    have y2 := hc8 2
    have y3 := hc8 3
    have y4 := hc8 4
    have y5 := hc8 5
    have y6 := hc8 6
    have y7 := hc8 7
    have y8 := hc8 8
    have y9 := hc8 9
    clear hw8 hc8 hb7 hb8
    generalize v7.heap.size = gn at *
    go_cut [69] (fun _ wx => Below v8.heap.size v8 wx)
    case first =>
      by_cases h0 : eu = 0
      · subst h0
        obtain ⟨n1, n2, n3, n4⟩ := HND.out _ rfl
        have HX := Lib.hid (fun W => encode_any x2.k x2.m x2.tx x2.ep x2.v x2.hk x2.hf x2.ht x2.he x2.hc W n2 n3 n4)
        rw [n1] at HX
        have hib8 := HB.out _ (hB6.trans (hB8.mono hB6.size))
        obtain ⟨k2, m2, tx2, ep2, v2, mk2, mf2, mt2, me2, mc2⟩ := x2
        dsimp only at *
        clear n1 n2 n3 n4
        go_wp2_with fail
        refine (HX.out _).mono ?_
        rintro r v9 ⟨az, cz, rfl, m1, m2, m3, hb9⟩
        dsimp only at m1 m3
        have hib9 := isB_up hib8 hb9
        have cv1 := conv_bytes cz m3 9 Tryd.underlying9
        have cv2 := conv_bytes cap2 hib9 9 Tryd.underlying9
        clear m1 m3 hib8 hib9
        go_wp2_with fail
        go_meet
        exact hb9
      · have hne : (eu == 0) = false := by simp [h0]
        go_wp2_with fail
        go_meet
        exact Below.refl _ _
    case rest =>
      obtain ⟨v9, h_v9⟩ : ∃ v : World, v = wc := ⟨_, rfl⟩; subst h_v9
      have hB69 := hB8.trans (hcut.mono hB8.size)
      have g3 := isB_up g3 hB69
      have k3 := isB_up k3 hB69
      have s0 := stay hB69 z06 s0
      have s1 := stay hB69 z06 s1
      have s2 := stay hB69 z06 s2
      have s3 := stay hB69 z06 s3
      have s4 := stay hB69 z06 s4
      have s5 := stay hB69 z06 s5
      have s6 := stay hB69 z06 s6
      have s7 := stay hB69 z06 s7
      have s8 := stay hB69 z06 s8
      have s9 := stay hB69 z06 s9
      have t0 := stay hB69 z16 t0
      have t1 := stay hB69 z16 t1
      have t2 := stay hB69 z16 t2
      have t3 := stay hB69 z16 t3
      have t4 := stay hB69 z16 t4
      have t5 := stay hB69 z16 t5
      have t6 := stay hB69 z16 t6
      have t7 := stay hB69 z16 t7
      have t8 := stay hB69 z16 t8
      have t9 := stay hB69 z16 t9
      have hB9 : Below w.heap.size w v9 := hB6.trans (hB69.mono hB6.size)
      have cv1 : ∀ q, (convert 26 9 (.slice ad oa.length cp)).run Tryd.prog (v9.drewN q) = .ok (.string ⟨oa.toArray⟩) (v9.drewN q) := fun q => conv_bytes cp (isB_up g3 (bw_drewN (Below.refl _ _))) 9 Tryd.underlying9
      have cv2 : ∀ q, (convert 26 9 (.slice ae ob.length cq)).run Tryd.prog (v9.drewN q) = .ok (.string ⟨ob.toArray⟩) (v9.drewN q) := fun q => conv_bytes cq (isB_up k3 (bw_drewN (Below.refl _ _))) 9 Tryd.underlying9
      have hq := rnote_eq ⟨k, m, tx, ep, v, mk, mf, mt, me, mc⟩ ⟨k', m', tx', ep', v', mk', mf', mt', me', mc'⟩
      have HI := Lib.hid (@inj ⟨k, m, tx, ep, v, mk, mf, mt, me, mc⟩ ⟨k', m', tx', ep', v', mk', mf', mt', me', mc'⟩ oa ob)
      generalize nB ⟨k, m, tx, ep, v, mk, mf, mt, me, mc⟩ ⟨k', m', tx', ep', v', mk', mf', mt', me', mc'⟩ = Bn at hq HI
      dsimp only at hq
      clear hB69 hcut hB8 g3 k3 HB HND HD
      by_cases h0 : ea = 0
      · subst h0
        by_cases h1 : eb = 0
        · subst h1
          have HX := Lib.hid (HI.out (HDE.out _ rfl) (HDF.out _ rfl) HTA.out HTB.out)
          clear HI
          go_wp2_with fail
          go_quiet (fail)
          go_wp2_with fail
          go_ret
          refine ⟨?_, by repeat (first | (with_reducible exact Below.refl _ _) | (with_reducible assumption) | (with_reducible refine bw_alloc ?_) | (with_reducible refine bw_drew ?_) | (with_reducible refine bw_drewN ?_) | (with_reducible refine bw_set ?_ (by first | (simp; done) | (dsimp only; omega))) | (with_reducible refine bw_via (by assumption) ?_))⟩
          show Ending.returned (.bool ((oa == ob) == Bn)) = _
          rw [HX.out]
        · have hne : (eb == 0) = false := by simp [h1]
          have hne2 : (eb != 0) = true := by simp [h1]
          go_wp2_with fail
          go_quiet (fail)
          go_wp2_with fail
          go_ret
          exact ⟨rfl, by repeat (first | (with_reducible exact Below.refl _ _) | (with_reducible assumption) | (with_reducible refine bw_alloc ?_) | (with_reducible refine bw_drew ?_) | (with_reducible refine bw_drewN ?_) | (with_reducible refine bw_set ?_ (by first | (simp; done) | (dsimp only; omega))) | (with_reducible refine bw_via (by assumption) ?_))⟩
      · have hne : (ea == 0) = false := by simp [h0]
        have hne2 : (ea != 0) = true := by simp [h0]
        go_wp2_with fail
        go_quiet (fail)
        go_wp2_with fail
        go_ret
        exact ⟨rfl, by repeat (first | (with_reducible exact Below.refl _ _) | (with_reducible assumption) | (with_reducible refine bw_alloc ?_) | (with_reducible refine bw_drew ?_) | (with_reducible refine bw_drewN ?_) | (with_reducible refine bw_set ?_ (by first | (simp; done) | (dsimp only; omega))) | (with_reducible refine bw_via (by assumption) ?_))⟩
end Go.Proofs.YtbkkomknajgpdaaDoor.LNoteBack
