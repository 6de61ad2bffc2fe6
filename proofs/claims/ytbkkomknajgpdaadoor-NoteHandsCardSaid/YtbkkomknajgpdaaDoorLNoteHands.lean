/- What one station says to another one goes over the air whole: for every message and every mobile the statement's call returns true. -/
import Derived.Test.YtbkkomknajgpdaaDoorNoteEq
namespace Go.Proofs.YtbkkomknajgpdaaDoor.LNoteHands
open Go.RowKit CodeSpec SumSpec NoteSpec Flat CodeMem SumMem NoteNum Note NoteCode Go.Proofs.YtbkkomknajgpdaaDoorW.PrintLast
set_option linter.unusedSimpArgs false
set_option linter.unusedVariables false
set_option maxRecDepth 100000

set_option maxHeartbeats 4000000 in
theorem walk (c0 : List Value) (a1 : Int) (w : World) (w0 : Fits [.int .i64, .int .u8, .int .u8, .int .i64, .str] c0) (w1 : (Lit.int .u8 a1).wf = true) :
    Calls Tryd.prog 7 #[.agg c0.toArray, .int .u8 a1] w fun e w' => e = .returned (.bool true) ∧ Below w.heap.size w w' := by
  obtain ⟨mk, _, rfl, _, x1⟩ := w0.int
  obtain ⟨mf, _, rfl, q1, x2⟩ := x1.int
  obtain ⟨mt, _, rfl, q2, x3⟩ := x2.int
  obtain ⟨me, _, rfl, _, x4⟩ := x3.int
  obtain ⟨mc, _, rfl, hc, x5⟩ := x4.str
  obtain rfl := x5.done
  obtain ⟨q1, _⟩ := bounds_u8 q1
  obtain ⟨q2, _⟩ := bounds_u8 q2
  obtain ⟨q3, _⟩ := bounds_u8 w1
  have h1 := hc
  unfold maxLen at h1
  clear w0 x1 x2 x3 x4 x5 w1
  by_cases hb : 700 < mc.size
  · have hs1 : (700 : Int) < (mc.size : Int) := by omega
    go_enter Tryd.func7, Tryd.ntmps7
    go_wp2_with fail
    refine (alive_any _).mono ?_
    rintro r v1 ⟨rfl, hb1⟩
    obtain ⟨c_hb1, f_hb1, z_hb1⟩ := bcell hb1; have z0_hb1 := z_hb1 (w.heap.size) (by first | omega | (simp only [World.size_alloc, World.size_setCell, World.size_drew, World.heap_drewN] <;> omega)); clear z_hb1
    go_wp2_with fail
    go_ret
    refine ⟨by first | rfl | (simp [*]; done), ?_⟩
    repeat (first | (with_reducible exact Below.refl _ _) | (with_reducible assumption) | (with_reducible refine bw_alloc ?_) | (with_reducible refine bw_drew ?_) | (with_reducible refine bw_drewN ?_) | (with_reducible refine bw_set ?_ (by first | (simp; done) | (dsimp only; omega))) | (with_reducible refine bw_via (by assumption) ?_))
  have hs1 : ¬ (700 : Int) < (mc.size : Int) := by omega
  clear hb
  cases hr : rightB 1 a1 0 0 0 mk mf mt me mc with
  | false =>
    have hE := fun W => encode_any 1 a1 0 0 0 mk mf mt me mc W q3 q1 q2
    have e1 : nencR 1 a1 0 0 0 mk mf mt me mc = ([], 2) := by rw [nencR, if_pos hr]
    rw [e1] at hE
    have HE := Lib.hid hE
    have hR := fun W => right_any 1 a1 0 0 0 mk mf mt me mc W
    rw [hr] at hR
    have HR := Lib.hid hR
    clear hE hR e1 hr
    go_enter Tryd.func7, Tryd.ntmps7
    go_wp2_with fail
    refine (alive_any _).mono ?_
    rintro r v1 ⟨rfl, hb1⟩
    obtain ⟨c_hb1, f_hb1, z_hb1⟩ := bcell hb1; have z0_hb1 := z_hb1 (w.heap.size) (by first | omega | (simp only [World.size_alloc, World.size_setCell, World.size_drew, World.heap_drewN] <;> omega)); clear z_hb1
    go_wp2_with fail
    refine (HE.out _).mono ?_
    rintro r v2 ⟨ad, cp, rfl, g1, g2, g3, hb2⟩
    have hB2 : Below w.heap.size w v2 := by repeat (first | (with_reducible exact Below.refl _ _) | (with_reducible assumption) | (with_reducible refine bw_alloc ?_) | (with_reducible refine bw_drew ?_) | (with_reducible refine bw_drewN ?_) | (with_reducible refine bw_set ?_ (by first | (simp; done) | (dsimp only; omega))) | (with_reducible refine bw_via (by assumption) ?_))
    obtain ⟨c_hb2, f_hb2, z_hb2⟩ := bcell hb2
    clear c_hb1 f_hb1
    go_wp2_with fail
    refine (HR.out _).mono ?_
    rintro r v3 ⟨rfl, hb3⟩
    go_wp2_with fail
    go_ret
    exact ⟨rfl, by repeat (first | (with_reducible exact Below.refl _ _) | (with_reducible assumption) | (with_reducible refine bw_alloc ?_) | (with_reducible refine bw_drew ?_) | (with_reducible refine bw_drewN ?_) | (with_reducible refine bw_set ?_ (by first | (simp; done) | (dsimp only; omega))) | (with_reducible refine bw_via (by assumption) ?_))⟩
  | true =>
    obtain ⟨o, ho⟩ : ∃ o, nencR 1 a1 0 0 0 mk mf mt me mc = (o, 0) := ⟨_, by rw [nencR, if_neg (by simp [hr])]⟩
    have hE := fun W => encode_any 1 a1 0 0 0 mk mf mt me mc W q3 q1 q2
    rw [ho] at hE
    have HE := Lib.hid hE
    have HD := Lib.hid (ndec_nenc q3 q1 q2 ho)
    have HOL := nenc_length ho
    have hq := note_eq ⟨1, a1, 0, 0, 0, mk, mf, mt, me, mc⟩ ⟨1, a1, 0, 0, 0, mk, mf, mt, me, mc⟩
    rw [show nB ⟨1, a1, 0, 0, 0, mk, mf, mt, me, mc⟩ ⟨1, a1, 0, 0, 0, mk, mf, mt, me, mc⟩ = true from decide_eq_true rfl] at hq
    have hqm := rmsg_eq mk mf mt me mc mk mf mt me mc
    rw [show mB mk mf mt me mc mk mf mt me mc = true from by simp [mB]] at hqm
    dsimp only at hq
    have hol : o.length ≤ 1000000 := by omega
    clear hE ho hr HOL
    go_enter Tryd.func7, Tryd.ntmps7
    go_wp2_with fail
    refine (alive_any _).mono ?_
    rintro r v1 ⟨rfl, hb1⟩
    obtain ⟨c_hb1, f_hb1, z_hb1⟩ := bcell hb1; have z0_hb1 := z_hb1 (w.heap.size) (by first | omega | (simp only [World.size_alloc, World.size_setCell, World.size_drew, World.heap_drewN] <;> omega)); clear z_hb1
    go_wp2_with fail
    refine (HE.out _).mono ?_
    rintro r v2 ⟨ad, cp, rfl, g1, g2, g3, hb2⟩
    dsimp only at g1 g3
    have hB2 : Below w.heap.size w v2 := by repeat (first | (with_reducible exact Below.refl _ _) | (with_reducible assumption) | (with_reducible refine bw_alloc ?_) | (with_reducible refine bw_drew ?_) | (with_reducible refine bw_drewN ?_) | (with_reducible refine bw_set ?_ (by first | (simp; done) | (dsimp only; omega))) | (with_reducible refine bw_via (by assumption) ?_))
    have s0 : v2.cell? ⟨w.heap.size, 0, none⟩ = some (.int .i64 mk) := (by rw [hb2.cell (p := ⟨w.heap.size, _, none⟩) (by first | (simp; done) | (simp; omega))]; simp [go_sem, c_hb1, z0_hb1]); have s1 : v2.cell? ⟨w.heap.size, 1, none⟩ = some (.int .u8 mf) := (by rw [hb2.cell (p := ⟨w.heap.size, _, none⟩) (by first | (simp; done) | (simp; omega))]; simp [go_sem, c_hb1, z0_hb1]); have s2 : v2.cell? ⟨w.heap.size, 2, none⟩ = some (.int .u8 mt) := (by rw [hb2.cell (p := ⟨w.heap.size, _, none⟩) (by first | (simp; done) | (simp; omega))]; simp [go_sem, c_hb1, z0_hb1]); have s3 : v2.cell? ⟨w.heap.size, 3, none⟩ = some (.int .i64 me) := (by rw [hb2.cell (p := ⟨w.heap.size, _, none⟩) (by first | (simp; done) | (simp; omega))]; simp [go_sem, c_hb1, z0_hb1]); have s4 : v2.cell? ⟨w.heap.size, 4, none⟩ = some (.string mc) := (by rw [hb2.cell (p := ⟨w.heap.size, _, none⟩) (by first | (simp; done) | (simp; omega))]; simp [go_sem, c_hb1, z0_hb1])
    have t0 : v2.cell? ⟨v1.heap.size, 0, none⟩ = some (.int .i64 1) := (by rw [hb2.cell (p := ⟨v1.heap.size, _, none⟩) (by simp)]; simp [go_sem]); have t1 : v2.cell? ⟨v1.heap.size, 1, none⟩ = some (.int .u8 a1) := (by rw [hb2.cell (p := ⟨v1.heap.size, _, none⟩) (by simp)]; simp [go_sem]); have t2 : v2.cell? ⟨v1.heap.size, 2, none⟩ = some (.int .i64 0) := (by rw [hb2.cell (p := ⟨v1.heap.size, _, none⟩) (by simp)]; simp [go_sem]); have t3 : v2.cell? ⟨v1.heap.size, 3, none⟩ = some (.int .i64 0) := (by rw [hb2.cell (p := ⟨v1.heap.size, _, none⟩) (by simp)]; simp [go_sem]); have t4 : v2.cell? ⟨v1.heap.size, 4, none⟩ = some (.int .i64 0) := (by rw [hb2.cell (p := ⟨v1.heap.size, _, none⟩) (by simp)]; simp [go_sem]); have t5 : v2.cell? ⟨v1.heap.size, 5, none⟩ = some (.int .i64 mk) := (by rw [hb2.cell (p := ⟨v1.heap.size, _, none⟩) (by simp)]; simp [go_sem]); have t6 : v2.cell? ⟨v1.heap.size, 6, none⟩ = some (.int .u8 mf) := (by rw [hb2.cell (p := ⟨v1.heap.size, _, none⟩) (by simp)]; simp [go_sem]); have t7 : v2.cell? ⟨v1.heap.size, 7, none⟩ = some (.int .u8 mt) := (by rw [hb2.cell (p := ⟨v1.heap.size, _, none⟩) (by simp)]; simp [go_sem]); have t8 : v2.cell? ⟨v1.heap.size, 8, none⟩ = some (.int .i64 me) := (by rw [hb2.cell (p := ⟨v1.heap.size, _, none⟩) (by simp)]; simp [go_sem]); have t9 : v2.cell? ⟨v1.heap.size, 9, none⟩ = some (.string mc) := (by rw [hb2.cell (p := ⟨v1.heap.size, _, none⟩) (by simp)]; simp [go_sem])
    have zg : v1.heap.size < v2.heap.size := by have := hb2.size; simp at this; omega
    have hne : ¬ w.heap.size = v1.heap.size := by omega
    have z02 : w.heap.size < v2.heap.size := by omega
    clear c_hb1 f_hb1 hb1 hb2 z0_hb1
    generalize v1.heap.size = g at *
    go_wp2_with fail
    have HX := decode_note ad o cp v2 hol g3 g1 g2
    rw [HD.out] at HX
    refine HX.mono ?_
    rintro r v3 ⟨rfl, hb3⟩
    have zg3 : g < v3.heap.size := by have := hb3.size; omega
    have z03 : w.heap.size < v3.heap.size := by have := hb3.size; omega
    have s0 := stay hb3 z02 s0
    have s1 := stay hb3 z02 s1
    have s2 := stay hb3 z02 s2
    have s3 := stay hb3 z02 s3
    have s4 := stay hb3 z02 s4
    have t0 := stay hb3 zg t0
    have t1 := stay hb3 zg t1
    have t2 := stay hb3 zg t2
    have t3 := stay hb3 zg t3
    have t4 := stay hb3 zg t4
    have t5 := stay hb3 zg t5
    have t6 := stay hb3 zg t6
    have t7 := stay hb3 zg t7
    have t8 := stay hb3 zg t8
    have t9 := stay hb3 zg t9
    clear g1 g2 g3 HX HE HD hol
    dsimp only
    go_wp2_with fail
    go_ret
    exact ⟨rfl, by repeat (first | (with_reducible exact Below.refl _ _) | (with_reducible assumption) | (with_reducible refine bw_alloc ?_) | (with_reducible refine bw_drew ?_) | (with_reducible refine bw_drewN ?_) | (with_reducible refine bw_set ?_ (by first | (simp; done) | (dsimp only; omega))) | (with_reducible refine bw_via (by assumption) ?_))⟩
end Go.Proofs.YtbkkomknajgpdaaDoor.LNoteHands
