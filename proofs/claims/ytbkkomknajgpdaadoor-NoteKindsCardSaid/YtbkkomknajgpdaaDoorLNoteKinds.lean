/- Changed by one in its kind, or its transaction, a note has other bytes, or may not be: for every note the statement's call returns true. -/
import Derived.Test.YtbkkomknajgpdaaDoorNoteEq
import Derived.Deep.DeepCutAuto
import Derived.Deep.QuietTactic
import Derived.BigQuiet
namespace Go.Proofs.YtbkkomknajgpdaaDoor.LNoteKinds
open Go.RowKit CodeSpec SumSpec NoteSpec Flat CodeMem SumMem NoteNum Note NoteCode Go.Proofs.YtbkkomknajgpdaaDoorW.PrintLast
set_option linter.unusedSimpArgs false
set_option linter.unusedVariables false
set_option maxRecDepth 100000

/-- The other note, in a box of its own. -/
def Other (x : N) (w : World) (g : Nat) (wx : World) : Prop :=
  ∃ y : N, y ≠ x ∧ (0 ≤ y.m ∧ 0 ≤ y.hf ∧ 0 ≤ y.ht) ∧ g < wx.heap.size ∧ (wx.cell? ⟨g, 0, none⟩ = some (.int .i64 y.k) ∧ wx.cell? ⟨g, 1, none⟩ = some (.int .u8 y.m) ∧ wx.cell? ⟨g, 2, none⟩ = some (.int .i64 y.tx) ∧ wx.cell? ⟨g, 3, none⟩ = some (.int .i64 y.ep) ∧ wx.cell? ⟨g, 4, none⟩ = some (.int .i64 y.v) ∧
    wx.cell? ⟨g, 5, none⟩ = some (.int .i64 y.hk) ∧ wx.cell? ⟨g, 6, none⟩ = some (.int .u8 y.hf) ∧ wx.cell? ⟨g, 7, none⟩ = some (.int .u8 y.ht) ∧ wx.cell? ⟨g, 8, none⟩ = some (.int .i64 y.he) ∧ wx.cell? ⟨g, 9, none⟩ = some (.string y.hc)) ∧ Below g w wx

set_option maxHeartbeats 8000000 in
theorem walk (c0 : List Value) (a1 : Int) (w : World) (w0 : Fits [.int .i64, .int .u8, .int .i64, .int .i64, .int .i64, .int .i64, .int .u8, .int .u8, .int .i64, .str] c0) (w1 : (Lit.int .u8 a1).wf = true) :
    Calls Tryd.prog 6 #[.agg c0.toArray, .int .u8 a1] w fun e w' => e = .returned (.bool true) ∧ Below w.heap.size w w' := by
  obtain ⟨x, rfl, q1, q2, q3, hc⟩ := open_note w0
  obtain ⟨b1, b2⟩ := bounds_u8 w1
  clear w0 w1
  obtain ⟨k, m, tx, ep, v, mk, mf, mt, me, mc⟩ := x
  dsimp only at q1 q2 q3 hc ⊢
  unfold maxLen at hc
  by_cases hb : 700 < mc.size
  · have hs1 : (700 : Int) < (mc.size : Int) := by omega
    go_enter Tryd.func6, Tryd.ntmps6
    go_wp2_with fail
    refine (alive_any _).mono ?_
    rintro r v1 ⟨rfl, hb1⟩
    obtain ⟨c_hb1, f_hb1, z_hb1⟩ := bcell hb1; have z0_hb1 := z_hb1 (w.heap.size) (by first | omega | (simp only [World.size_alloc, World.size_setCell, World.size_drew, World.heap_drewN] <;> omega)); clear z_hb1
    go_wp2_with fail
    go_ret
    refine ⟨by first | rfl | (simp [*]; done), ?_⟩
    repeat (first | (with_reducible exact Below.refl _ _) | (with_reducible assumption) | (with_reducible refine bw_alloc ?_) | (with_reducible refine bw_drew ?_) | (with_reducible refine bw_drewN ?_) | (with_reducible refine bw_set ?_ (by first | (simp; done) | (dsimp only; omega))) | (with_reducible refine bw_via (by assumption) ?_))
  have hs1 : ¬ (700 : Int) < (mc.size : Int) := by omega
  clear hb
  have HE := Lib.hid (fun W => encode_any k m tx ep v mk mf mt me mc W q1 q2 q3)
  have HDE := Lib.hid (fun o => @ndec_nenc k m tx ep v mk mf mt me mc o q1 q2 q3)
  have HNR := @nenc_right k m tx ep v mk mf mt me mc
  generalize nencR k m tx ep v mk mf mt me mc = T at HE HDE HNR
  obtain ⟨oa, ea⟩ := T
  have HP := Lib.hid (fun W => right_any k m tx ep v mk mf mt me mc W)
  generalize rightB k m tx ep v mk mf mt me mc = B at HP HNR
  have HT := Lib.hid (fun W => theirs_any ⟨k, m, tx, ep, v, mk, mf, mt, me, mc⟩ W)
  have HNRH := Lib.hid HNR
  clear HNR
  go_enter Tryd.func6, Tryd.ntmps6
  go_wp2_with fail
  refine (alive_any _).mono ?_
  rintro r v1 ⟨rfl, hb1⟩
  obtain ⟨c_hb1, f_hb1, z_hb1⟩ := bcell hb1; have z0_hb1 := z_hb1 (w.heap.size) (by first | omega | (simp only [World.size_alloc, World.size_setCell, World.size_drew, World.heap_drewN] <;> omega)); clear z_hb1
  have hB1 : Below w.heap.size w v1 := by repeat (first | (with_reducible exact Below.refl _ _) | (with_reducible assumption) | (with_reducible refine bw_alloc ?_) | (with_reducible refine bw_drew ?_) | (with_reducible refine bw_drewN ?_) | (with_reducible refine bw_set ?_ (by first | (simp; done) | (dsimp only; omega))) | (with_reducible refine bw_via (by assumption) ?_))
  have s0 : v1.cell? ⟨w.heap.size, 0, none⟩ = some (.int .i64 k) := (by simp [go_sem, c_hb1]); have s1 : v1.cell? ⟨w.heap.size, 1, none⟩ = some (.int .u8 m) := (by simp [go_sem, c_hb1]); have s2 : v1.cell? ⟨w.heap.size, 2, none⟩ = some (.int .i64 tx) := (by simp [go_sem, c_hb1]); have s3 : v1.cell? ⟨w.heap.size, 3, none⟩ = some (.int .i64 ep) := (by simp [go_sem, c_hb1]); have s4 : v1.cell? ⟨w.heap.size, 4, none⟩ = some (.int .i64 v) := (by simp [go_sem, c_hb1]); have s5 : v1.cell? ⟨w.heap.size, 5, none⟩ = some (.int .i64 mk) := (by simp [go_sem, c_hb1]); have s6 : v1.cell? ⟨w.heap.size, 6, none⟩ = some (.int .u8 mf) := (by simp [go_sem, c_hb1]); have s7 : v1.cell? ⟨w.heap.size, 7, none⟩ = some (.int .u8 mt) := (by simp [go_sem, c_hb1]); have s8 : v1.cell? ⟨w.heap.size, 8, none⟩ = some (.int .i64 me) := (by simp [go_sem, c_hb1]); have s9 : v1.cell? ⟨w.heap.size, 9, none⟩ = some (.string mc) := (by simp [go_sem, c_hb1])
  clear c_hb1 f_hb1 hb1
  go_upto_block 0 with (fail)
  generalize hw2 : World.alloc v1 _ = v2
  obtain ⟨hb2, hz2, hc2⟩ := alloc_facts hw2
  have fz : ∀ o, v2.frozen? ⟨v1.heap.size, o, none⟩ = false := by intro o; rw [← hw2]; simp [go_sem]
  have t0 := hc2 0
  have t1 := hc2 1
  have t2 := hc2 2
  have t3 := hc2 3
  have t4 := hc2 4
  have t5 := hc2 5
  have t6 := hc2 6
  have t7 := hc2 7
  have t8 := hc2 8
  have t9 := hc2 9
  have s0 := stay hb2 z0_hb1 s0
  have s1 := stay hb2 z0_hb1 s1
  have s2 := stay hb2 z0_hb1 s2
  have s3 := stay hb2 z0_hb1 s3
  have s4 := stay hb2 z0_hb1 s4
  have s5 := stay hb2 z0_hb1 s5
  have s6 := stay hb2 z0_hb1 s6
  have s7 := stay hb2 z0_hb1 s7
  have s8 := stay hb2 z0_hb1 s8
  have s9 := stay hb2 z0_hb1 s9
  have z02 : w.heap.size < v2.heap.size := by omega
  have hB2 : Below w.heap.size w v2 := hB1.trans (hb2.mono hB1.size)
  have hwg : w.heap.size < v1.heap.size := z0_hb1
  clear hw2 hc2 hb2 hB1 z0_hb1
  generalize v1.heap.size = g at *
  go_cut [] (fun wx => Other ⟨k, m, tx, ep, v, mk, mf, mt, me, mc⟩ v2 g wx)
  case first =>
    have h4 : a1 % 4 = 0 ∨ a1 % 4 = 1 ∨ a1 % 4 = 2 ∨ a1 % 4 = 3 := by omega
    rcases h4 with h4 | h4 | h4 | h4
    · go_wp2_with fail
      go_meet
      refine ⟨⟨wrap64 (k + 1), m, tx, ep, v, mk, mf, mt, me, mc⟩, ?_, ⟨q1, q2, q3⟩, by simpa using hz2, ?_, ?_⟩
      · intro e
        have := congrArg N.k e
        dsimp only at this
        unfold wrap64 at this
        omega
      · dsimp only
        simp [go_sem, t0, t1, t2, t3, t4, t5, t6, t7, t8, t9]
      · exact (Below.refl g v2).setCell (p := ⟨g, 0, none⟩) (Nat.le_refl _) _
    · go_wp2_with fail
      go_meet
      refine ⟨⟨k, (m + 1) % 256, tx, ep, v, mk, mf, mt, me, mc⟩, ?_, ⟨by dsimp only; omega, q2, q3⟩, by simpa using hz2, ?_, ?_⟩
      · intro e
        have := congrArg N.m e
        dsimp only at this
        omega
      · dsimp only
        simp [go_sem, t0, t1, t2, t3, t4, t5, t6, t7, t8, t9]
      · exact (Below.refl g v2).setCell (p := ⟨g, 1, none⟩) (Nat.le_refl _) _
    · go_wp2_with fail
      go_meet
      refine ⟨⟨k, m, wrap64 (tx + 1), ep, v, mk, mf, mt, me, mc⟩, ?_, ⟨q1, q2, q3⟩, by simpa using hz2, ?_, ?_⟩
      · intro e
        have := congrArg N.tx e
        dsimp only at this
        unfold wrap64 at this
        omega
      · dsimp only
        simp [go_sem, t0, t1, t2, t3, t4, t5, t6, t7, t8, t9]
      · exact (Below.refl g v2).setCell (p := ⟨g, 2, none⟩) (Nat.le_refl _) _
    · go_wp2_with fail
      go_meet
      refine ⟨⟨k, m, tx, wrap64 (ep + 1), v, mk, mf, mt, me, mc⟩, ?_, ⟨q1, q2, q3⟩, by simpa using hz2, ?_, ?_⟩
      · intro e
        have := congrArg N.ep e
        dsimp only at this
        unfold wrap64 at this
        omega
      · dsimp only
        simp [go_sem, t0, t1, t2, t3, t4, t5, t6, t7, t8, t9]
      · exact (Below.refl g v2).setCell (p := ⟨g, 3, none⟩) (Nat.le_refl _) _
  case rest =>
    obtain ⟨v3, h_v3⟩ : ∃ v : World, v = wc := ⟨_, rfl⟩; subst h_v3
    obtain ⟨y, hne, ⟨p1, p2, p3⟩, hz3, ⟨y0, y1, y2, y3, y4, y5, y6, y7, y8, y9⟩, hB3⟩ := hcut
    have HF := Lib.hid (fun W => encode_any y.k y.m y.tx y.ep y.v y.hk y.hf y.ht y.he y.hc W p1 p2 p3)
    have HDF := Lib.hid (fun o => @ndec_nenc y.k y.m y.tx y.ep y.v y.hk y.hf y.ht y.he y.hc o p1 p2 p3)
    have HNR2 := @nenc_right y.k y.m y.tx y.ep y.v y.hk y.hf y.ht y.he y.hc
    generalize nencR y.k y.m y.tx y.ep y.v y.hk y.hf y.ht y.he y.hc = T2 at HF HDF HNR2
    obtain ⟨ob, eb⟩ := T2
    have HP2 := Lib.hid (fun W => right_any y.k y.m y.tx y.ep y.v y.hk y.hf y.ht y.he y.hc W)
    generalize rightB y.k y.m y.tx y.ep y.v y.hk y.hf y.ht y.he y.hc = B2 at HP2 HNR2
    have HT2 := Lib.hid (fun W => theirs_any y W)
    have HNE := Lib.hid hne
    have HNR2H := Lib.hid HNR2
    clear HNR2 hne
    obtain ⟨k2, m2, tx2, ep2, v2', mk2, mf2, mt2, me2, mc2⟩ := y
    dsimp only at *
    have hz03 : w.heap.size < v3.heap.size := by omega
    have hB3w : Below w.heap.size w v3 := hB2.trans (hB3.mono (by omega))
    have s0 := (hB3.cell (p := ⟨w.heap.size, 0, none⟩) hwg).trans s0
    have s1 := (hB3.cell (p := ⟨w.heap.size, 1, none⟩) hwg).trans s1
    have s2 := (hB3.cell (p := ⟨w.heap.size, 2, none⟩) hwg).trans s2
    have s3 := (hB3.cell (p := ⟨w.heap.size, 3, none⟩) hwg).trans s3
    have s4 := (hB3.cell (p := ⟨w.heap.size, 4, none⟩) hwg).trans s4
    have s5 := (hB3.cell (p := ⟨w.heap.size, 5, none⟩) hwg).trans s5
    have s6 := (hB3.cell (p := ⟨w.heap.size, 6, none⟩) hwg).trans s6
    have s7 := (hB3.cell (p := ⟨w.heap.size, 7, none⟩) hwg).trans s7
    have s8 := (hB3.cell (p := ⟨w.heap.size, 8, none⟩) hwg).trans s8
    have s9 := (hB3.cell (p := ⟨w.heap.size, 9, none⟩) hwg).trans s9
    clear hB3 hB2 t0 t1 t2 t3 t4 t5 t6 t7 t8 t9 fz hz2 z02 p1 p2 p3
    have hwg' : ¬ w.heap.size = g := by omega
    go_wp2_with fail
    refine (HT.out _).mono ?_
    rintro r v4 ⟨rfl, hb4⟩
    go_wp2_with fail
    refine (HE.out _).mono ?_
    rintro r v5 ⟨ad, cp, rfl, g1, g2, g3, hb5⟩
    dsimp only at g1 g3
    have hB5 := hb4.trans (hb5.mono hb4.size)
    have s0 := stay hB5 hz03 s0
    have s1 := stay hB5 hz03 s1
    have s2 := stay hB5 hz03 s2
    have s3 := stay hB5 hz03 s3
    have s4 := stay hB5 hz03 s4
    have s5 := stay hB5 hz03 s5
    have s6 := stay hB5 hz03 s6
    have s7 := stay hB5 hz03 s7
    have s8 := stay hB5 hz03 s8
    have s9 := stay hB5 hz03 s9
    have y0 := stay hB5 hz3 y0
    have y1 := stay hB5 hz3 y1
    have y2 := stay hB5 hz3 y2
    have y3 := stay hB5 hz3 y3
    have y4 := stay hB5 hz3 y4
    have y5 := stay hB5 hz3 y5
    have y6 := stay hB5 hz3 y6
    have y7 := stay hB5 hz3 y7
    have y8 := stay hB5 hz3 y8
    have y9 := stay hB5 hz3 y9
    have z05 : w.heap.size < v5.heap.size := by have := hB5.size; omega
    have zg5 : g < v5.heap.size := by have := hB5.size; omega
    have hB5w : Below w.heap.size w v5 := hB3w.trans (hB5.mono hB3w.size)
    clear hB5 hb4 hb5 hz03 hz3 hB3w HE
    go_wp2_with fail
    refine (HT2.out _).mono ?_
    rintro r v6 ⟨rfl, hb6⟩
    go_wp2_with fail
    refine (HF.out _).mono ?_
    rintro r v7 ⟨ae, cq, rfl, k1, k2', k3, hb7⟩
    dsimp only at k1 k3
    have hB7 := hb6.trans (hb7.mono hb6.size)
    have s0 := stay hB7 z05 s0
    have s1 := stay hB7 z05 s1
    have s2 := stay hB7 z05 s2
    have s3 := stay hB7 z05 s3
    have s4 := stay hB7 z05 s4
    have s5 := stay hB7 z05 s5
    have s6 := stay hB7 z05 s6
    have s7 := stay hB7 z05 s7
    have s8 := stay hB7 z05 s8
    have s9 := stay hB7 z05 s9
    have y0 := stay hB7 zg5 y0
    have y1 := stay hB7 zg5 y1
    have y2 := stay hB7 zg5 y2
    have y3 := stay hB7 zg5 y3
    have y4 := stay hB7 zg5 y4
    have y5 := stay hB7 zg5 y5
    have y6 := stay hB7 zg5 y6
    have y7 := stay hB7 zg5 y7
    have y8 := stay hB7 zg5 y8
    have y9 := stay hB7 zg5 y9
    have g3 := isB_up g3 hB7
    have z07 : w.heap.size < v7.heap.size := by have := hB7.size; omega
    have zg7 : g < v7.heap.size := by have := hB7.size; omega
    have hB7w : Below w.heap.size w v7 := hB5w.trans (hB7.mono hB5w.size)
    clear hB7 hb6 hb7 z05 zg5 hB5w HF
    have rest : ∀ (W : World), Below v7.heap.size v7 W → (convert 26 9 (.slice ad oa.length cp)).run Tryd.prog W = .ok (.string ⟨oa.toArray⟩) W ∧ (convert 26 9 (.slice ae ob.length cq)).run Tryd.prog W = .ok (.string ⟨ob.toArray⟩) W :=
      fun W hb => ⟨conv_bytes cp (isB_up g3 hb) 9 Tryd.underlying9, conv_bytes cq (isB_up k3 hb) 9 Tryd.underlying9⟩
    have REST := Lib.hid rest
    clear rest g1 g2 g3 k1 k2' k3
    cases B <;> cases B2
    all_goals
      first | (have e1 : ea = 2 := HNRH.out; clear HNRH; subst e1) | (have e1 : ea = 0 := HNRH.out; clear HNRH; subst e1)
      first | (have e2 : eb = 2 := HNR2H.out; clear HNR2H; subst e2) | (have e2 : eb = 0 := HNR2H.out; clear HNR2H; subst e2)
      go_wp2_with fail
      refine (HT.out _).mono ?_
      rintro r v8 ⟨rfl, hb8⟩
      obtain ⟨c_hb8, f_hb8, z_hb8⟩ := bcell hb8
      go_wp2_with fail
      refine (HP.out _).mono ?_
      rintro r v9 ⟨rfl, hb9⟩
      have hB9 := hb8.trans (hb9.mono hb8.size)
      have yy0 := stay hB9 zg7 y0
      have yy1 := stay hB9 zg7 y1
      have yy2 := stay hB9 zg7 y2
      have yy3 := stay hB9 zg7 y3
      have yy4 := stay hB9 zg7 y4
      have yy5 := stay hB9 zg7 y5
      have yy6 := stay hB9 zg7 y6
      have yy7 := stay hB9 zg7 y7
      have yy8 := stay hB9 zg7 y8
      have yy9 := stay hB9 zg7 y9
      clear c_hb8 f_hb8 z_hb8 hb8 hb9
      go_wp2_with fail
      refine (HT2.out _).mono ?_
      rintro r v10 ⟨rfl, hb10⟩
      go_wp2_with fail
      refine (HP2.out _).mono ?_
      rintro r v11 ⟨rfl, hb11⟩
      have hB11 := hB9.trans ((hb10.trans (hb11.mono hb10.size)).mono hB9.size)
      obtain ⟨cv1, cv2⟩ := REST.out _ hB11
      have hfin : Below w.heap.size w v11 := hB7w.trans (hB11.mono hB7w.size)
    · go_wp2_with fail
      go_ret
      exact ⟨rfl, hfin⟩
    · go_wp2_with fail
      go_ret
      exact ⟨rfl, hfin⟩
    · go_wp2_with fail
      go_ret
      exact ⟨rfl, hfin⟩
    · have hno : ¬ oa = ob := fun e => by
        have h1 := HDE.out _ rfl
        have h2 := HDF.out _ rfl
        rw [e, h2] at h1
        exact HNE.out (congrArg Prod.fst h1)
      have HNO := Lib.hid hno
      clear hno
      go_wp2_with fail
      go_ret
      refine ⟨?_, hfin⟩
      show Ending.returned (.bool (!(oa == ob))) = _
      simp [HNO.out]
end Go.Proofs.YtbkkomknajgpdaaDoor.LNoteKinds
