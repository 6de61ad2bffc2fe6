/- Which notes may be: package note's answer, and the reference's. -/
import Derived.Test.YtajnaiofagppeaaDoorFlat
import Derived.Test.YtajnaiofagppeaaDoorWLast
import Derived.LoopTactic
import Derived.RegionTactic
import Derived.Deep.DeepCutAuto
import Derived.Deep.CutBlock
import Derived.Deep.LoopGhost
import Derived.Lib.Hide
import Derived.OpenShut
import Derived.Test.YtajnaiofagppeaaDoorNoteSpec
import Derived.WalkSpells
import Derived.WalkLawsBesides
import Derived.BigQuiet
import Derived.Deep.QuietTactic
namespace Go.Proofs.YtajnaiofagppeaaDoor.Note
open Go.RowKit NoteSpec Flat
set_option linter.unusedSimpArgs false
set_option linter.unusedVariables false
set_option maxRecDepth 100000

theorem ret_bool {a b : Bool} (h : a = b) : Ending.returned (.bool a) = .returned (.bool b) := by rw [h]
theorem has_any (lo hi n : Int) (w : World) : Calls Tryd.prog 74 #[.agg #[.int .i64 lo, .int .i64 hi], .int .i64 n] w fun e w' => e = .returned (.bool (decide (lo ≤ n) && decide (n ≤ hi))) ∧ w' = w.alloc (.cells #[.int .i64 lo, .int .i64 hi] 150) := by
  go_enter Tryd.func74, Tryd.ntmps74
  go_wp2
  all_goals (go_ret; refine ⟨?_, rfl⟩)
  all_goals (refine ret_bool ?_; (try simp_all [epochB]); (try omega); (try (intros; omega)); (try (split at *; simp_all; omega)))
set_option maxHeartbeats 1000000 in
theorem msg_eq (mk mf mt me : Int) (mc : ByteArray) (w : World) : (binOp .eql 72 (.agg #[.int .i64 mk, .int .u8 mf, .int .u8 mt, .int .i64 me, .string mc]) (.agg #[.int .i64 0, .int .u8 0, .int .u8 0, .int .i64 0, .string ⟨#[]⟩])).run Tryd.prog w = .ok (.bool (noMsg mk mf mt me mc)) w := by
  unfold noMsg
  by_cases h1 : mk = 0 <;> by_cases h2 : mf = 0 <;> by_cases h3 : mt = 0 <;> by_cases h4 : me = 0 <;> by_cases h5 : mc.toList = [] <;> simp [go_sem, h1, h2, h3, h4, h5]
/-- Three spans in blocks of one's own. -/
def Spans (w w3 : World) (v5 v6 v7 : Value) (wx : World) : Prop :=
  ∃ a b c : Nat, v5 = .pointer (some ⟨a, 0, none⟩) ∧ v6 = .pointer (some ⟨b, 0, none⟩) ∧ v7 = .pointer (some ⟨c, 0, none⟩) ∧ (a ≠ b ∧ a ≠ c ∧ b ≠ c ∧ b ≠ a ∧ c ≠ a ∧ c ≠ b) ∧ (w3.heap.size ≤ a ∧ w3.heap.size ≤ b ∧ w3.heap.size ≤ c) ∧
    (wx.cell? ⟨a, 0, none⟩ = some (.int .i64 0) ∧ wx.cell? ⟨a, 1, none⟩ = some (.int .i64 999) ∧ wx.cell? ⟨b, 0, none⟩ = some (.int .i64 0) ∧ wx.cell? ⟨b, 1, none⟩ = some (.int .i64 0) ∧ wx.cell? ⟨c, 0, none⟩ = some (.int .i64 0) ∧ wx.cell? ⟨c, 1, none⟩ = some (.int .i64 0)) ∧
    (wx.frozen? ⟨a, 0, none⟩ = false ∧ wx.frozen? ⟨a, 1, none⟩ = false ∧ wx.frozen? ⟨b, 0, none⟩ = false ∧ wx.frozen? ⟨b, 1, none⟩ = false ∧ wx.frozen? ⟨c, 0, none⟩ = false ∧ wx.frozen? ⟨c, 1, none⟩ = false) ∧
    Below w3.heap.size w3 wx
theorem has_use (lo hi n : Int) (P : Bool) (h : P = (decide (lo ≤ n) && decide (n ≤ hi))) (w : World) : Calls Tryd.prog 74 #[.agg #[.int .i64 lo, .int .i64 hi], .int .i64 n] w fun e w' => e = .returned (.bool P) ∧ Below w.heap.size w w' :=
  (has_any lo hi n w).mono fun e w' ⟨h1, h2⟩ => ⟨by rw [h]; exact h1, by rw [h2]; exact (Below.refl _ _).alloc (Nat.le_refl _) _⟩
theorem hand_fin {m tx ep v : Int} {H said : Bool} (h : H = said) : (decide (m < 8) && decide (0 ≤ tx) && decide (tx < 1000) && ((tx == 0) && (ep == 0) && (v == 0) && H)) =
    (said && decide (m < 8) && (decide (0 ≤ tx) && decide (tx ≤ 0)) && (decide (0 ≤ ep) && decide (ep ≤ 0)) && (decide (0 ≤ v) && decide (v ≤ 0))) := by
  subst h
  cases H <;> simp
  rw [Bool.eq_iff_iff]
  simp
  omega
/-- What stands ahead of the last test. -/
def TailP (w : World) (a b c : Nat) (m tx ep v : Int) (R : Bool) (v9 : Value) (wx : World) : Prop :=
  ∃ (said : Bool) (alo ahi blo bhi clo chi : Int), v9 = .bool said ∧ (wx.cell? ⟨a, 0, none⟩ = some (.int .i64 alo) ∧ wx.cell? ⟨a, 1, none⟩ = some (.int .i64 ahi) ∧ wx.cell? ⟨b, 0, none⟩ = some (.int .i64 blo) ∧ wx.cell? ⟨b, 1, none⟩ = some (.int .i64 bhi) ∧
    wx.cell? ⟨c, 0, none⟩ = some (.int .i64 clo) ∧ wx.cell? ⟨c, 1, none⟩ = some (.int .i64 chi) ∧ wx.cell? ⟨w.heap.size, 1, none⟩ = some (.int .u8 m) ∧ wx.cell? ⟨w.heap.size, 2, none⟩ = some (.int .i64 tx) ∧ wx.cell? ⟨w.heap.size, 3, none⟩ = some (.int .i64 ep) ∧ wx.cell? ⟨w.heap.size, 4, none⟩ = some (.int .i64 v)) ∧
    Below w.heap.size w wx ∧ R = (said && decide (m < 8) && (decide (alo ≤ tx) && decide (tx ≤ ahi)) && (decide (blo ≤ ep) && decide (ep ≤ bhi)) && (decide (clo ≤ v) && decide (v ≤ chi)))
set_option maxHeartbeats 4000000 in
theorem right_any (k m tx ep v mk mf mt me : Int) (mc : ByteArray) (w : World) : Calls Tryd.prog 47 #[.agg #[.int .i64 k, .int .u8 m, .int .i64 tx, .int .i64 ep, .int .i64 v, .int .i64 mk, .int .u8 mf, .int .u8 mt, .int .i64 me, .string mc]] w fun e w' => e = .returned (.bool (rightB k m tx ep v mk mf mt me mc)) ∧ Below w.heap.size w w' := by
  go_enter Tryd.func47, Tryd.ntmps47
  go_upto_region 2 with (fail)
  generalize hw3 : World.alloc (World.alloc (World.alloc w _) _) _ = w3
  have hB3 : Below w.heap.size w w3 := by rw [← hw3]; exact (((Below.refl _ w).alloc (Nat.le_refl _) _).alloc (by simp) _).alloc (by simp; omega) _
  have hsz : w3.heap.size = w.heap.size + 3 := by rw [← hw3]; simp
  have k0 : w3.cell? ⟨w.heap.size, 0, none⟩ = some (.int .i64 k) := by rw [← hw3]; simp [go_sem]
  have k1 : w3.cell? ⟨w.heap.size, 1, none⟩ = some (.int .u8 m) := by rw [← hw3]; simp [go_sem]
  have k2 : w3.cell? ⟨w.heap.size, 2, none⟩ = some (.int .i64 tx) := by rw [← hw3]; simp [go_sem]
  have k3 : w3.cell? ⟨w.heap.size, 3, none⟩ = some (.int .i64 ep) := by rw [← hw3]; simp [go_sem]
  have k4 : w3.cell? ⟨w.heap.size, 4, none⟩ = some (.int .i64 v) := by rw [← hw3]; simp [go_sem]
  have k5 : w3.cell? ⟨w.heap.size, 5, none⟩ = some (.int .i64 mk) := by rw [← hw3]; simp [go_sem]
  have k6 : w3.cell? ⟨w.heap.size, 6, none⟩ = some (.int .u8 mf) := by rw [← hw3]; simp [go_sem]
  have k7 : w3.cell? ⟨w.heap.size, 7, none⟩ = some (.int .u8 mt) := by rw [← hw3]; simp [go_sem]
  have k8 : w3.cell? ⟨w.heap.size, 8, none⟩ = some (.int .i64 me) := by rw [← hw3]; simp [go_sem]
  have k9 : w3.cell? ⟨w.heap.size, 9, none⟩ = some (.string mc) := by rw [← hw3]; simp [go_sem]
  have n0 : w3.cell? ⟨w.heap.size + 1, 0, none⟩ = some (.int .i64 0) := by rw [← hw3]; simp [go_sem]
  have n1 : w3.cell? ⟨w.heap.size + 1, 1, none⟩ = some (.int .i64 0) := by rw [← hw3]; simp [go_sem]
  have e0 : w3.cell? ⟨w.heap.size + 1 + 1, 0, none⟩ = some (.int .i64 1) := by rw [← hw3]; simp [go_sem]
  have e1 : w3.cell? ⟨w.heap.size + 1 + 1, 1, none⟩ = some (.int .i64 1048576) := by rw [← hw3]; simp [go_sem]
  have l0 : w.heap.size < w3.heap.size := by omega
  have l1 : w.heap.size + 1 < w3.heap.size := by omega
  have l2 : w.heap.size + 1 + 1 < w3.heap.size := by omega
  have HSZ := Lib.hid hsz
  clear hw3 hsz
  go_cut [5, 6, 7] (fun v5 v6 v7 wx => Spans w w3 v5 v6 v7 wx)
  case first =>
    go_wp2_with fail
    go_region
    all_goals go_wp2_with fail
    all_goals go_meet
    all_goals (
      refine ⟨_, _, _, rfl, rfl, rfl, ⟨by omega, by omega, by omega, by omega, by omega, by omega⟩, ⟨by omega, by omega, by omega⟩, by simp [go_sem], ?_, ((((Below.refl _ w3).alloc (Nat.le_refl _) _).alloc (by simp) _).alloc (by simp; omega) _).drew⟩
      simp [go_sem])
  case rest =>
    obtain ⟨a, b, c, rfl, rfl, rfl, ⟨x1, x2, x3, x4, x5, x6⟩, ⟨y1, y2, y3⟩, ⟨s1, s2, s3, s4, s5, s6⟩, ⟨f1, f2, f3, f4, f5, f6⟩, hBx⟩ := hcut
    obtain ⟨wi, h_wi⟩ : ∃ v : World, v = wc := ⟨_, rfl⟩; subst h_wi
    have K0 := (hBx.cell (p := ⟨w.heap.size, 0, none⟩) l0).trans k0
    have K1 := (hBx.cell (p := ⟨w.heap.size, 1, none⟩) l0).trans k1
    have K2 := (hBx.cell (p := ⟨w.heap.size, 2, none⟩) l0).trans k2
    have K3 := (hBx.cell (p := ⟨w.heap.size, 3, none⟩) l0).trans k3
    have K4 := (hBx.cell (p := ⟨w.heap.size, 4, none⟩) l0).trans k4
    have K5 := (hBx.cell (p := ⟨w.heap.size, 5, none⟩) l0).trans k5
    have K6 := (hBx.cell (p := ⟨w.heap.size, 6, none⟩) l0).trans k6
    have K7 := (hBx.cell (p := ⟨w.heap.size, 7, none⟩) l0).trans k7
    have K8 := (hBx.cell (p := ⟨w.heap.size, 8, none⟩) l0).trans k8
    have K9 := (hBx.cell (p := ⟨w.heap.size, 9, none⟩) l0).trans k9
    have N0 := (hBx.cell (p := ⟨w.heap.size + 1, 0, none⟩) l1).trans n0
    have N1 := (hBx.cell (p := ⟨w.heap.size + 1, 1, none⟩) l1).trans n1
    have E0 := (hBx.cell (p := ⟨w.heap.size + 1 + 1, 0, none⟩) l2).trans e0
    have E1 := (hBx.cell (p := ⟨w.heap.size + 1 + 1, 1, none⟩) l2).trans e1
    have hBW : Below w.heap.size w wi := hB3.trans (hBx.mono hB3.size)
    have HSZ2 := HSZ.out
    have L0 : w.heap.size < wi.heap.size := Flat.cell_lt K0
    have L1 : w.heap.size + 1 < wi.heap.size := Flat.cell_lt N0
    have L2 : w.heap.size + 1 + 1 < wi.heap.size := Flat.cell_lt E0
    have La : a < wi.heap.size := Flat.cell_lt s1
    have Lb : b < wi.heap.size := Flat.cell_lt s3
    have Lc : c < wi.heap.size := Flat.cell_lt s5
    have za : w.heap.size ≤ a := by omega
    have zb : w.heap.size ≤ b := by omega
    have zc : w.heap.size ≤ c := by omega
    have g0 : ¬ w.heap.size = a := by omega
    have g1 : ¬ w.heap.size = b := by omega
    have g2 : ¬ w.heap.size = c := by omega
    have g3 : ¬ w.heap.size + 1 + 1 = a := by omega
    have g4 : ¬ w.heap.size + 1 + 1 = b := by omega
    have g5 : ¬ w.heap.size + 1 + 1 = c := by omega
    have g6 : ¬ a = w.heap.size := by omega
    have g7 : ¬ b = w.heap.size := by omega
    have g8 : ¬ c = w.heap.size := by omega
    have g9 : ¬ a = w.heap.size + 1 + 1 := by omega
    have g10 : ¬ b = w.heap.size + 1 + 1 := by omega
    have g11 : ¬ c = w.heap.size + 1 + 1 := by omega
    clear HSZ2 k0 k1 k2 k3 k4 k5 k6 k7 k8 k9 n0 n1 e0 e1 l0 l1 l2 hB3 hBx y1 y2 y3 HSZ
    have hM := fun w' => msg_eq mk mf mt me mc w'
    have HR : Hid (∀ B, noMsg mk mf mt me mc = B → rightB k m tx ep v mk mf mt me mc = (decide (m < 8) && decide (0 ≤ tx) && decide (tx < 1000) && (if k = 1 then (tx == 0) && (ep == 0) && (v == 0) && handed mk mf mt me mc else B && (if k = 2 then epochB ep && ((v == 1) || (v == 2)) else if k = 3 then epochB ep && (v == 0) else if k = 4 then (ep == 0) && (v == 0) else if k = 5 then (ep == 0) && decide (0 ≤ v) && decide (v ≤ 2) else false)))) := Lib.hid (fun B h => by rw [rightB, h])
    obtain ⟨B, hBn⟩ : ∃ B, noMsg mk mf mt me mc = B := ⟨_, rfl⟩
    have HR2 := Lib.hid (HR.out B hBn)
    rw [hBn] at hM
    clear HR hBn
    have G : ∃ R, rightB k m tx ep v mk mf mt me mc = R := ⟨_, rfl⟩
    go_upto_block 0 with (fail)
    go_cut [9] (fun v9 wx => TailP w a b c m tx ep v (rightB k m tx ep v mk mf mt me mc) v9 wx)
    case first =>
      by_cases h2 : k = 2
      · subst h2
        go_wp2_with fail
        go_meet
        refine ⟨B, 0, 999, 1, 1048576, 1, 2, rfl, ⟨?_, ?_, ?_, ?_, ?_, ?_, ?_, ?_, ?_, ?_⟩, ?_, ?_⟩
        · simp [go_sem, *]
        · simp [go_sem, *]
        · simp [go_sem, *]
        · simp [go_sem, *]
        · simp [go_sem, *]
        · simp [go_sem, *]
        · simp [go_sem, *]
        · simp [go_sem, *]
        · simp [go_sem, *]
        · simp [go_sem, *]
        · repeat (first | exact hBW | (refine bw_alloc ?_) | (refine bw_set ?_ (by assumption)))
        · rw [HR2.out]
          cases B <;> simp [epochB]
          rw [Bool.eq_iff_iff]
          simp
          omega
      by_cases h3 : k = 3
      · subst h3
        go_wp2_with fail
        go_meet
        refine ⟨B, 0, 999, 1, 1048576, 0, 0, rfl, ⟨?_, ?_, ?_, ?_, ?_, ?_, ?_, ?_, ?_, ?_⟩, ?_, ?_⟩
        · simp [go_sem, *]
        · simp [go_sem, *]
        · simp [go_sem, *]
        · simp [go_sem, *]
        · simp [go_sem, *]
        · simp [go_sem, *]
        · simp [go_sem, *]
        · simp [go_sem, *]
        · simp [go_sem, *]
        · simp [go_sem, *]
        · repeat (first | exact hBW | (refine bw_alloc ?_) | (refine bw_set ?_ (by assumption)))
        · rw [HR2.out]
          cases B <;> simp [epochB]
          rw [Bool.eq_iff_iff]
          simp
          omega
      by_cases h4 : k = 4
      · subst h4
        go_wp2_with fail
        go_meet
        refine ⟨B, 0, 999, 0, 0, 0, 0, rfl, ⟨?_, ?_, ?_, ?_, ?_, ?_, ?_, ?_, ?_, ?_⟩, ?_, ?_⟩
        · simp [go_sem, *]
        · simp [go_sem, *]
        · simp [go_sem, *]
        · simp [go_sem, *]
        · simp [go_sem, *]
        · simp [go_sem, *]
        · simp [go_sem, *]
        · simp [go_sem, *]
        · simp [go_sem, *]
        · simp [go_sem, *]
        · repeat (first | exact hBW | (refine bw_alloc ?_) | (refine bw_set ?_ (by assumption)))
        · rw [HR2.out]
          cases B <;> simp [epochB]
          rw [Bool.eq_iff_iff]
          simp
          omega
      by_cases h5 : k = 5
      · subst h5
        go_wp2_with fail
        go_meet
        refine ⟨B, 0, 999, 0, 0, 0, 2, rfl, ⟨?_, ?_, ?_, ?_, ?_, ?_, ?_, ?_, ?_, ?_⟩, ?_, ?_⟩
        · simp [go_sem, *]
        · simp [go_sem, *]
        · simp [go_sem, *]
        · simp [go_sem, *]
        · simp [go_sem, *]
        · simp [go_sem, *]
        · simp [go_sem, *]
        · simp [go_sem, *]
        · simp [go_sem, *]
        · simp [go_sem, *]
        · repeat (first | exact hBW | (refine bw_alloc ?_) | (refine bw_set ?_ (by assumption)))
        · rw [HR2.out]
          cases B <;> simp [epochB]
          rw [Bool.eq_iff_iff]
          simp
          omega
      by_cases h1 : k = 1
      · subst h1
        have HR3 : Hid (rightB 1 m tx ep v mk mf mt me mc = (decide (m < 8) && decide (0 ≤ tx) && decide (tx < 1000) && ((tx == 0) && (ep == 0) && (v == 0) && handed mk mf mt me mc))) := Lib.hid (by rw [HR2.out, if_pos rfl])
        clear HR2
        go_wp2_with (go_at_call 74; refine (has_any _ _ _ _).mono ?_; rintro e w' ⟨rfl, rfl⟩)
        all_goals go_meet
        all_goals (
          refine ⟨_, 0, 0, 0, 0, 0, 0, rfl, ⟨?_, ?_, ?_, ?_, ?_, ?_, ?_, ?_, ?_, ?_⟩, ?_, ?_⟩
          · simp [go_sem, *]
          · simp [go_sem, *]
          · simp [go_sem, *]
          · simp [go_sem, *]
          · simp [go_sem, *]
          · simp [go_sem, *]
          · simp [go_sem, *]
          · simp [go_sem, *]
          · simp [go_sem, *]
          · simp [go_sem, *]
          · repeat (first | exact hBW | (refine bw_alloc ?_) | (refine bw_set ?_ (by assumption)))
          · rw [HR3.out]
            refine hand_fin ?_
            clear HR3 hM K0 K1 K2 K3 K4 K5 K6 K7 K8 K9
            (try simp_all [handed, epochB]); (try omega); (try (intros; omega)))
      · have h1b : (k == 1) = false := by simp [h1]
        have h2b : (k == 2) = false := by simp [h2]
        have h3b : (k == 3) = false := by simp [h3]
        have h4b : (k == 4) = false := by simp [h4]
        have h5b : (k == 5) = false := by simp [h5]
        go_wp2_with fail
        go_ret
        refine ⟨?_, ?_⟩
        · rw [HR2.out]
          exact ret_bool (by simp [h1, h2, h3, h4, h5])
        · repeat (first | exact hBW | (refine bw_alloc ?_))
    case rest =>
      obtain ⟨wj, h_wj⟩ : ∃ v : World, v = wc := ⟨_, rfl⟩; subst h_wj
      obtain ⟨said, alo, ahi, blo, bhi, clo, chi, rfl, ⟨t1, t2, t3, t4, t5, t6, t7, t8, t9, t10⟩, hBt, hRt⟩ := hcut
      have HRT := Lib.hid hRt
      clear hRt hM HR2 G K0 K1 K2 K3 K4 K5 K6 K7 K8 K9 N0 N1 E0 E1 s1 s2 s3 s4 s5 s6 f1 f2 f3 f4 f5 f6 La Lb Lc L0 L1 L2 g0 g1 g2 g3 g4 g5 g6 g7 g8 g9 g10 g11 za zb zc x1 x2 x3 x4 x5 x6 hBW
      have La := Flat.cell_lt t1
      have Lb := Flat.cell_lt t3
      have Lc := Flat.cell_lt t5
      have L0 := Flat.cell_lt t7
      have H1 := fun P h => has_use alo ahi tx P h
      have H2 := fun P h => has_use blo bhi ep P h
      have H3 := fun P h => has_use clo chi v P h
      have HRT2 : Hid (∀ P1 P2 P3, P1 = (decide (alo ≤ tx) && decide (tx ≤ ahi)) → P2 = (decide (blo ≤ ep) && decide (ep ≤ bhi)) → P3 = (decide (clo ≤ v) && decide (v ≤ chi)) → rightB k m tx ep v mk mf mt me mc = (said && decide (m < 8) && P1 && P2 && P3)) := Lib.hid (fun P1 P2 P3 h1 h2 h3 => by rw [HRT.out, h1, h2, h3])
      obtain ⟨P1, hP1⟩ : ∃ P, P = (decide (alo ≤ tx) && decide (tx ≤ ahi)) := ⟨_, rfl⟩
      obtain ⟨P2, hP2⟩ : ∃ P, P = (decide (blo ≤ ep) && decide (ep ≤ bhi)) := ⟨_, rfl⟩
      obtain ⟨P3, hP3⟩ : ∃ P, P = (decide (clo ≤ v) && decide (v ≤ chi)) := ⟨_, rfl⟩
      have HRT3 := Lib.hid (HRT2.out P1 P2 P3 hP1 hP2 hP3)
      have K1 := Lib.hid (H1 P1 hP1)
      have K2 := Lib.hid (H2 P2 hP2)
      have K3 := Lib.hid (H3 P3 hP3)
      clear HRT HRT2 H1 H2 H3 hP1 hP2 hP3
      have hz := hBt
      cases said with
      | false =>
        go_wp2_with fail
        go_ret
        exact ⟨by rw [HRT3.out]; exact ret_bool (by simp), hBt⟩
      | true =>
        by_cases hm : m < 8
        · go_wp2_with fail
          refine (K1.out _).mono ?_
          rintro e v1 ⟨rfl, hb1⟩
          have hB1 := hBt.trans (hb1.mono hBt.size)
          have t3' := (hb1.cell (p := ⟨b, 0, none⟩) Lb).trans t3
          have t4' := (hb1.cell (p := ⟨b, 1, none⟩) Lb).trans t4
          have t5' := (hb1.cell (p := ⟨c, 0, none⟩) Lc).trans t5
          have t6' := (hb1.cell (p := ⟨c, 1, none⟩) Lc).trans t6
          have t9' := (hb1.cell (p := ⟨w.heap.size, 3, none⟩) L0).trans t9
          have t10' := (hb1.cell (p := ⟨w.heap.size, 4, none⟩) L0).trans t10
          have Lb' := Nat.lt_of_lt_of_le Lb hb1.size
          have Lc' := Nat.lt_of_lt_of_le Lc hb1.size
          have L0' := Nat.lt_of_lt_of_le L0 hb1.size
          clear t1 t2 t3 t4 t5 t6 t7 t8 t9 t10 hb1 K1 La Lb Lc L0 hz hBt
          cases P1 with
          | false =>
            go_wp2_with fail
            go_ret
            exact ⟨by rw [HRT3.out]; exact ret_bool (by simp), hB1⟩
          | true =>
            go_wp2_with fail
            refine (K2.out _).mono ?_
            rintro e v2 ⟨rfl, hb2⟩
            have hB2 := hB1.trans (hb2.mono hB1.size)
            have t5 := (hb2.cell (p := ⟨c, 0, none⟩) Lc').trans t5'
            have t6 := (hb2.cell (p := ⟨c, 1, none⟩) Lc').trans t6'
            have t10 := (hb2.cell (p := ⟨w.heap.size, 4, none⟩) L0').trans t10'
            clear t3' t4' t5' t6' t9' t10' hb2 K2 Lb' Lc' L0' hB1
            cases P2 with
            | false =>
              go_wp2_with fail
              go_ret
              exact ⟨by rw [HRT3.out]; exact ret_bool (by simp), hB2⟩
            | true =>
              go_wp2_with fail
              refine (K3.out _).mono ?_
              rintro e v3 ⟨rfl, hb3⟩
              have hB3 := hB2.trans (hb3.mono hB2.size)
              clear t5 t6 t10 hb3 K3 hB2
              go_wp2_with fail
              go_ret
              exact ⟨by rw [HRT3.out]; exact ret_bool (by simp [hm]), hB3⟩
        · have hmf : decide (m < 8) = false := by simp [hm]
          go_wp2_with fail
          go_ret
          exact ⟨by rw [HRT3.out]; exact ret_bool (by rw [hmf]; rfl), hBt⟩
end Go.Proofs.YtajnaiofagppeaaDoor.Note
